/- Held: all bytes that the directory's files have. -/
import Derived.Test.YtephblclhojffaaAx0
import Derived.Test.YtephblclhojffaaHFile
namespace Go.Proofs.Ytephblclhojffaa.A
open Go.RowKit Go.Proofs.YtephblclhojffaaW.PrintWords Go.Proofs.YtephblclhojffaaW.PrintLast Go.Proofs.YtephblclhojffaaW.PrintMore
open Go.Maps
set_option linter.unusedVariables false
set_option linter.unusedSimpArgs false

theorem dGet_of_mem {d : Dir} (h : Rising d) {k : Bs} {f : Nat} (hm : (k, f) ∈ d) : dGet d k = some f := by
  unfold dGet
  induction d with
  | nil => simp at hm
  | cons y r ih =>
    rw [List.find?_cons]
    have h' := List.pairwise_cons.1 h
    rcases List.mem_cons.1 hm with e | e
    · subst e; simp
    · have hlt := h'.1 _ e
      have : (y.1 == k) = false := by
        rw [beq_eq_false_iff_ne]; intro e2; simp only at hlt; rw [e2] at hlt; exact absurd hlt (List.lt_irrefl _)
      rw [this]
      exact ih h'.2 e
def heldTo (M : DM) (k : Nat) : Nat := ((M.dir.take k).map fun p => (M.files.getD p.2 ([], 0)).1.length).sum
theorem heldTo_all (M : DM) : heldTo M M.dir.length = held M := by unfold heldTo held; rw [List.take_length]
theorem heldTo_succ (M : DM) (k : Nat) (hk : k < M.dir.length) : heldTo M (k + 1) = heldTo M k + (M.files.getD M.dir[k].2 ([], 0)).1.length := by
  unfold heldTo
  rw [List.take_succ_eq_append_getElem hk, List.map_append, List.sum_append, List.map_cons, List.map_nil, List.sum_cons, List.sum_nil, Nat.add_zero]
theorem names_at (M : DM) (k : Nat) (hk : k < M.dir.length) : rdOf ByteArray.empty (namesF M) (k : Int) = bsS M.dir[k].1 := by
  simp [rdOf, namesF, bsS, hk]
theorem heldTo_le (M : DM) (t : Nat) (hf : Fits M t) : ∀ k, heldTo M k ≤ k * t
  | 0 => by simp [heldTo]
  | k + 1 => by
    have ih := heldTo_le M t hf k
    by_cases hk : k < M.dir.length
    · rw [heldTo_succ M k hk]
      have := hf M.dir[k].2
      rw [Nat.succ_mul]
      omega
    · unfold heldTo at ih ⊢
      rw [List.take_of_length_le (by omega)] at ih ⊢
      rw [Nat.succ_mul]
      omega
section
variable {pl : Bool} {w : World} {own : Nat → Prop} {fb : List Nat} {db dm sm : Nat} {chs : Value} {sl xs : List Value} {M : DM}
theorem DiskR.below {w' : World} (h : DiskR pl w own db dm sm chs fb sl xs M) (hb : Below w.heap.size w w') : DiskR pl w' own db dm sm chs fb sl xs M :=
  h.kept (fun k hk => hb.block k (h.lt k hk)) (fun _ hk => hk) (fun k hk => Nat.lt_of_lt_of_le (h.lt k hk) hb.size)
set_option maxRecDepth 100000 in
set_option maxHeartbeats 2000000 in
theorem Held.calls (h : DiskR pl w own db dm sm chs fb sl xs M) (hl : M.dir.length ≤ 1048576) (hf : Fits M 1099511627776) (hn : ∀ p ∈ M.dir, p.1.length ≤ maxLen) :
    Calls Try.prog 21 #[.pointer (some ⟨db, 0, none⟩)] w fun e w' => e = .returned (.int .i64 (held M)) ∧ Below w.heap.size w w' := by
  have hnames := Names.calls h hl
  have HD := Aside0.mk h
  have HF := Aside0.mk hf
  have HNm := Aside0.mk hn
  have HR := Aside0.mk h.dirR.rising
  have HL := Aside0.mk hl
  clear h hf hl hn
  go_enter Try.func21, Try.ntmps21
  go_wp2_with fail
  refine hnames.mono ?_
  rintro e w1 ⟨v, rfl, ho, hb⟩
  have hnl : (namesF M).length = M.dir.length := by simp [namesF]
  obtain ⟨A, c, rfl, hAc, hrd⟩ := Kd.R_reads (Kd.R_of_own (ok := fun _ => True) (h1 := fun _ => rfl) ho (fun _ _ => trivial))
  have HRD := Aside0.mk hrd
  have HB := Aside0.mk hb
  have HD1 := Aside0.mk (HD.out.below hb)
  have c1 := cells_of HD1.out.bdb 1 rfl
  clear hb hrd ho
  rw [hnl] at hAc HRD ⊢
  have HNL := Aside0.mk hnl
  clear hnl hAc
  have hL := HL.out
  generalize hlen : M.dir.length = L at hL HRD
  have HLen := Aside0.mk hlen
  clear hlen
  go_wp2
  go_loop [3, 9] (fun n i => ∃ k : Nat, k ≤ L ∧ i = .int .i64 k ∧ n = .int .i64 (heldTo M k)) (fun _ i => L - (intOf i).toNat)
  case atStart => exact ⟨0, Nat.zero_le _, rfl, rfl⟩
  case round =>
    obtain ⟨k, hk, rfl, rfl⟩ := hrel
    by_cases hlt : k < L
    · have hltz : (k : Int) < (L : Int) := by omega
      obtain ⟨ad, rfl, hcell⟩ := Kd.at_string HRD.out (k : Int) (by omega) hltz
      have hkd : k < M.dir.length := by rw [HLen.out]; exact hlt
      rw [names_at M k hkd, Int.toNat_natCast] at hcell
      have hg : dGet M.dir M.dir[k].1 = some M.dir[k].2 := dGet_of_mem HR.out (List.getElem_mem hkd)
      have hnm : (bsS M.dir[k].1).size ≤ maxLen := by rw [bsS_size]; exact HNm.out _ (List.getElem_mem hkd)
      have hlk := look HD1.out.dirR (bsS M.dir[k].1) hnm
      have e1 := bsS_list M.dir[k].1
      rw [e1, hg] at hlk
      obtain ⟨v, hi, -, -, hfb, hsl⟩ := HD1.out.file hg
      have hle := HF.out M.dir[k].2
      obtain ⟨A2, c2, rfl, hc2, hr2⟩ := hsl.reads (by omega)
      have f0 := cells_of hfb 0 rfl
      have hs := heldTo_succ M k hkd
      have hb1 := heldTo_le M _ HF.out k
      have hL2 := hL
      have hb2 : k * 1099511627776 ≤ 1048576 * 1099511627776 := Nat.mul_le_mul_right _ (by omega)
      simp only [Option.map_some, ptrV] at hlk
      generalize (M.files.getD M.dir[k].2 ([], 0)).1.length = m at f0 hs hle
      generalize (M.files.getD M.dir[k].2 ([], 0)).2 = m2 at f0
      generalize fbG fb M.dir[k].2 = b at hlk f0
      generalize bsS M.dir[k].1 = nm at hcell hlk
      have HS := Aside0.mk hs
      have b1 : 0 ≤ (heldTo M k : Int) := by omega
      have b2 : (heldTo M k : Int) ≤ 2000000000000000000 := by omega
      have b3 : (m : Int) ≤ 2000000000000000000 := by omega
      clear hs hb1 hb2 hL2 hg hnm e1 hi hfb hsl hr2 hc2 hle
      go_wp2
      go_round
      case rel => exact ⟨k + 1, by omega, by go_num, by rw [HS.out]; go_num⟩
      case measure => simp [intOf]; omega
    · obtain rfl : k = L := by omega
      have e := Aside0.mk (show heldTo M k = held M by rw [← HLen.out]; exact heldTo_all M)
      go_wp2
      go_ret
      exact ⟨by rw [← e.out]; rfl, HB.out⟩
end
end Go.Proofs.Ytephblclhojffaa.A
