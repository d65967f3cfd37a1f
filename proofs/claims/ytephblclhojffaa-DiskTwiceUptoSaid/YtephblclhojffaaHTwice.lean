/- DiskTwice's walk. -/
import Derived.Test.YtephblclhojffaaAx0
import Derived.Test.YtephblclhojffaaHAtO
import Derived.Test.YtephblclhojffaaHNamesW
namespace Go.Proofs.Ytephblclhojffaa.A
open Go.RowKit Go.Proofs.YtephblclhojffaaW.PrintWords Go.Proofs.YtephblclhojffaaW.PrintLast Go.Proofs.YtephblclhojffaaW.PrintMore
open Go.Maps
set_option linter.unusedVariables false
set_option linter.unusedSimpArgs false

/-- The five cells of a step that lies in a box. -/
def BoxAt (w : World) (b : Nat) (o : S24) (A : Option Addr) (c : Nat) : Prop := w.heap[b]? = some (.cells #[.int .i64 o.f0, .string o.f1, .string o.f2, .int .i64 o.f3, .slice A o.f4.length c] 24 (0, 0))
theorem BoxAt.below {w w' : World} {b : Nat} {o : S24} {A : Option Addr} {c : Nat} (h : BoxAt w b o A c) (hb : Below w.heap.size w w') : BoxAt w' b o A c := (hb.block b (List.getElem?_eq_some_iff.1 (by simpa [BoxAt] using h)).1).trans h
theorem C_box {w : World} {v : Obj} {A : Option Addr} {m : Nat} {l : List Int} (h : Kd.C (Kd.int .i64) w A m l) : Kd.C (Kd.int .i64) (w.alloc v) A m l := Kd.C_below h ((Below.refl w.heap.size w).alloc (Nat.le_refl _) v)
theorem info9 : (Try.prog.info? 9).map (fun i => (i.zero, i.size, i.bytes)) = some (some (.string ⟨#[]⟩), 1, 16) := by kernel_rfl
/-- The texts of the first files. -/
def textsTo (M : DM) (j : Nat) : List ByteArray := (M.dir.take j).map fun p => bsS (M.files.getD p.2 ([], 0)).1
theorem textsTo_len (M : DM) {j : Nat} (hj : j ≤ M.dir.length) : (textsTo M j).length = j := by unfold textsTo; rw [List.length_map, List.length_take]; omega
theorem textsTo_succ (M : DM) {j : Nat} (hj : j < M.dir.length) : textsTo M (j + 1) = textsTo M j ++ [bsS (M.files.getD (M.dir.getD j ([], 0)).2 ([], 0)).1] := by
  unfold textsTo
  rw [List.take_succ_eq_append_getElem hj, List.map_append, List.map_cons, List.map_nil, show M.dir.getD j ([], 0) = M.dir[j] by simp [hj]]
theorem textsTo_at (M : DM) {j L : Nat} (hj : j < L) (hL : L ≤ M.dir.length) : rdOf ByteArray.empty (textsTo M L) (j : Int) = bsS (M.files.getD (M.dir.getD j ([], 0)).2 ([], 0)).1 := by
  have h1 : j < M.dir.length := by omega
  simp [rdOf, textsTo, h1, hj, List.getElem?_take]
set_option maxRecDepth 100000 in
set_option maxHeartbeats 16000000 in
theorem DiskTwice.walk (l : List S24) (hops : ∀ o ∈ l, OpOk o) (A : Option Addr) (c : Nat) (b1 b2 : S24) (B1 B2 : Option Addr) (e1 e2 : Nat) (w : World) (hC : Kd.C k24 w A l.length l) (hc : l.length ≤ c)
    (hk1 : (Kd.int .i64).C w B1 b1.f4.length b1.f4) (hl1 : b1.f4.length ≤ e1) (hk2 : (Kd.int .i64).C w B2 b2.f4.length b2.f4) (hl2 : b2.f4.length ≤ e2) :
    Calls Try.prog 6 #[.slice A l.length c, .agg #[.int .i64 b1.f0, .string b1.f1, .string b1.f2, .int .i64 b1.f3, .slice B1 b1.f4.length e1], .agg #[.int .i64 b2.f0, .string b2.f1, .string b2.f2, .int .i64 b2.f3, .slice B2 b2.f4.length e2]] w fun e w' => e = .returned (.bool true) ∧ Below w.heap.size w w' := by
  have hu24 := Try.underlying24
  have hC1 := C_take hC 300
  have HOP : Aside0 (∀ (k : Nat) (hk : k < (earlyF l).length), OpOk (earlyF l)[k]) := ⟨fun k hk => hops _ (List.mem_of_mem_take (List.getElem_mem hk))⟩
  have hL := earlyF_len l
  have hL3 : (earlyF l).length ≤ 300 := by omega
  have hear := fun W => early.calls W A c l hc
  change Kd.C k24 w A (earlyF l).length (earlyF l) at hC1
  clear hC hops hL hc
  generalize hE : earlyF l = E at *
  have HL3 := Aside0.mk hL3
  clear hE hL3
  obtain ⟨x1, hx1⟩ : ∃ x, x = Obj.cells #[.int .i64 b1.f0, .string b1.f1, .string b1.f2, .int .i64 b1.f3, .slice B1 b1.f4.length e1] 24 (0, 0) := ⟨_, rfl⟩
  obtain ⟨x2, hx2⟩ : ∃ x, x = Obj.cells #[.int .i64 b2.f0, .string b2.f1, .string b2.f2, .int .i64 b2.f3, .slice B2 b2.f4.length e2] 24 (0, 0) := ⟨_, rfl⟩
  have hb0 : Below w.heap.size w (w.alloc x1) := (Below.refl w.heap.size w).alloc (Nat.le_refl _) x1
  have hb1 : Below w.heap.size w ((w.alloc x1).alloc x2) := hb0.alloc (by simp) x2
  have HB0 := Aside0.mk hb1
  have HC := Aside0.mk (Kd.C_below hC1 hb1)
  have HK1 := Aside0.mk (Kd.C_below hk1 hb1)
  have HK2 := Aside0.mk (Kd.C_below hk2 hb1)
  have hs1 : (w.alloc x1).heap.size = w.heap.size + 1 := by simp
  have HX1 : Aside0 (BoxAt ((w.alloc x1).alloc x2) w.heap.size b1 B1 e1) := ⟨by unfold BoxAt; rw [((Below.refl (w.alloc x1).heap.size (w.alloc x1)).alloc (Nat.le_refl _) x2).block _ (by omega), heap_alloc, hx1]⟩
  have HX2 : Aside0 (BoxAt ((w.alloc x1).alloc x2) (w.heap.size + 1) b2 B2 e2) := ⟨by unfold BoxAt; rw [← hs1, heap_alloc, hx2]⟩
  have HL1 := Aside0.mk hl1; have HL2 := Aside0.mk hl2
  clear hb0 hb1 hC1 hk1 hk2 hl1 hl2 hs1
  subst hx1 hx2
  go_enter Try.func6, Try.ntmps6
  go_wp2_with fail
  generalize (w.alloc (Obj.cells #[.int .i64 b1.f0, .string b1.f1, .string b1.f2, .int .i64 b1.f3, .slice B1 b1.f4.length e1] 24 (0, 0))).alloc (Obj.cells #[.int .i64 b2.f0, .string b2.f1, .string b2.f2, .int .i64 b2.f3, .slice B2 b2.f4.length e2] 24 (0, 0)) = w0 at *
  refine (lives.calls _).mono ?_
  rintro e w1 ⟨rfl, hb1⟩
  have HB1 := Aside0.mk hb1
  clear hb1
  go_wp2_with fail
  refine (hear _).mono ?_
  rintro e w2 ⟨rfl, rfl⟩
  go_wp2_with fail
  refine (at_new w0 w2 HB1.out 1073741824).mono ?_
  rintro e w3 ⟨db, rfl, hA⟩
  have hR : Aside0 (StepR w0 w3 db 0) := ⟨⟨newF 1073741824, hA, (inv_new 1073741824 (by omega)).mono (Nat.le_refl _) (Nat.zero_le _)⟩⟩
  clear hA hear
  go_wp2_with fail
  go_loopw [8] (fun i wr => ∃ k : Nat, k ≤ E.length ∧ i = .int .i64 k ∧ Aside0 (StepR w0 wr db k)) (fun i _ => E.length - (intOf i).toNat)
  case atStart => exact ⟨0, Nat.zero_le _, rfl, hR⟩
  case round =>
    clear hR
    obtain ⟨k, hk, rfl, HR⟩ := hrel
    by_cases hlt : k < E.length
    · obtain ⟨M, hA, hI⟩ := HR.out
      obtain ⟨ad, A4, c4, rfl, g0, g1, g2, g3, g4, hl4, hk4⟩ := op_at HC.out k hlt
      have hB := hA.bel
      have x0 := pw_cell_below hB g0
      have x1 := pw_cell_below hB g1
      have x2 := pw_cell_below hB g2
      have x3 := pw_cell_below hB g3
      have x4 := pw_cell_below hB g4
      have hok := HOP.out k hlt
      have hL3 := HL3.out
      have hdo := hA.does hI (by omega) (by omega) E[k] A4 c4 hk4 hl4 (by have := hok.s1; unfold maxLen; omega) (by have := hok.s2; omega)
      have hI' := step_pre hI hok
      have HI' := Aside0.mk hI'
      clear hA hI hI' hB hok g0 g1 g2 g3 g4 hl4 hk4 HR
      generalize stepF M E[k] = res at hdo HI'
      generalize hoo : E[k] = o at *
      clear hoo
      go_wp2_with fail
      refine hdo.mono ?_
      rintro e w5 ⟨rfl, hA5⟩
      have HN : Aside0 (StepR w0 w5 db (k + 1)) := ⟨⟨_, hA5, HI'.out⟩⟩
      clear hA5 hdo x0 x1 x2 x3 x4
      go_wp2_with fail
      go_roundw
      case rel => exact ⟨k + 1, by omega, by go_num, HN⟩
      case measure => simp [intOf]; omega
    · obtain ⟨M, hA, hI⟩ := HR.out
      have hn : ¬ k < E.length := hlt
      have hk3 : k ≤ 300 := by have := HL3.out; omega
      have HKN := Aside0.mk hk3
      have hx1 := HX1.out.below (hA.bel)
      have y3 := cells_of hx1 3 rfl
      have y4 := cells_of hx1 4 rfl
      have hcr := hA.crash hI (by omega) (by omega) b1.f3 B1 e1 b1.f4 HK1.out HL1.out
      have HTW := Aside0.mk (crash_twice hI b1.f3 b2.f3 b1.f4 b2.f4)
      have HSD := Aside0.mk (crash_syncDir (hI.crash b1.f3 b1.f4) (by omega) b2.f3 b2.f4)
      have HI5 := Aside0.mk (hI.crash b1.f3 b1.f4)
      generalize crashF M b1.f3 b1.f4 = M5 at *
      clear hA hI hx1 HR hk3
      go_wp2_with fail
      refine hcr.mono ?_
      rintro e w5 ⟨rfl, hA5⟩
      clear hcr y3 y4
      have HP := Aside0.mk (names_plain HI5.out hA5.rising (by have := HKN.out; omega))
      obtain ⟨own, hO⟩ := hA5.opened
      have HO := Aside0.mk hO
      have hnm := hO.names (by have h1 := HI5.out.dirL; have h2 := HKN.out; omega)
      clear hA5 hO
      go_wp2_with fail
      refine hnm.mono ?_
      rintro e w6 ⟨v6, rfl, hrow, hb6⟩
      obtain ⟨L, hLl⟩ : ∃ L, L = (namesF M5).length := ⟨_, rfl⟩
      have hLd : L = M5.dir.length := by rw [hLl]; simp [namesF]
      have HLD := Aside0.mk hLd
      have HROW := Aside0.mk hrow
      obtain ⟨A6, c6, rfl, hc6, hkd⟩ := row_reads hrow
      rw [← hLl] at hkd hc6 ⊢
      have hL0 : L ≤ 300 := by rw [hLd]; have h1 := HI5.out.dirL; have h2 := HKN.out; omega
      have HO6 := Aside0.mk (HO.out.below hb6)
      have HB6 := Aside0.mk hb6
      have HKD := Aside0.mk hkd; have HC6 := Aside0.mk hc6; have HL0 := Aside0.mk hL0; have HLL := Aside0.mk hLl
      clear hrow hb6 hnm hLd hLl hc6 hkd
      obtain ⟨wo, rfl⟩ : ∃ wo, wo = wr := ⟨_, rfl⟩
      go_wp2_with fail
      go_loopw [10, 11] (fun v i wr => ∃ j : Nat, j ≤ L ∧ i = .int .i64 j ∧ Aside0 (Below w6.heap.size w6 wr) ∧ Aside0 (Kd.R Kd.string 9 wr w6.heap.size (fun _ => True) v (textsTo M5 j))) (fun _ i _ => L - (intOf i).toNat)
      case atStart => exact ⟨0, Nat.zero_le _, rfl, ⟨Below.refl _ _⟩, ⟨Kd.R_nil _ _ _ _ _⟩⟩
      case round =>
        obtain ⟨j, hj, rfl, HBW, HR2⟩ := hrel
        by_cases hlt2 : j < L
        · have hjd : j < M5.dir.length := by rw [← HLD.out]; exact hlt2
          obtain ⟨p1, p2, p3, p4, p5, p7, p6⟩ := HP.out j hjd
          obtain ⟨ad6, rfl, hcell⟩ := Kd.at_string (Kd.C_below HKD.out HBW.out) (j : Int) (by omega) (by omega)
          rw [names_at' M5 j hjd, Int.toNat_natCast] at hcell
          have hrd := (HO6.out.below HBW.out).at_.read p1 (bsS (M5.dir.getD j ([], 0)).1) (by rw [bsS_size]; unfold maxLen; omega)
          rw [bsS_list, p4] at hrd
          have hsucc := textsTo_succ M5 hjd
          have hlen := textsTo_len M5 (j := j) (by omega)
          generalize bsS (M5.files.getD (M5.dir.getD j ([], 0)).2 ([], 0)).1 = fs at hrd hsucc
          generalize bsS (M5.dir.getD j ([], 0)).1 = nm at hrd hcell
          generalize textsTo M5 j = xs at *
          have NS := Aside0.mk hsucc
          have HLT2 := Aside0.mk hlt2; have HLN := Aside0.mk hlen
          have hltz : (j : Int) < (L : Int) := by omega
          clear p1 p2 p3 p4 p5 p6 p7 hsucc hlen
          go_wp2_with fail
          refine hrd.mono ?_
          rintro e w7 ⟨rfl, rfl⟩
          go_wp2_with (first | ((with_reducible refine gate_builtin (b := .append) (xs := #[.tmp 59, .tmp 61]) rfl ?_); at_builtin; refine Kd.R_append Kd.string (w0 := w6) w6.heap.size rfl (.tmp 59) (.tmp 61) 33 9 (.string ⟨#[]⟩) 16 rfl Try.underlying33 info9 rfl (by decide) (by omega) _ xs fs [.string fs] (fun _ => True) (fun _ => False) rfl rfl ?aP (fun _ hk => hk.elim) ?aF ?aO ?aB ?aS ?aL ?_; (case aP => exact rfl); (case aB => exact (by repeat (first | (with_reducible first | exact HBW.out | apply below_alloc | apply pw_below_drewN | apply below_drew1) | exact HBW.out))); (case aF => exact (fun _ _ => trivial)); (case aO => exact (by (with_reducible repeat (first | apply Kd.R_alloc | apply Kd.R_drewN | apply Kd.R_drew)); exact HR2.out)); (case aS => exact (below_size (by repeat (first | (with_reducible first | exact HBW.out | apply below_alloc | apply pw_below_drewN | apply below_drew1) | exact HBW.out)))); (case aL => have := HLN.out; have := HLT2.out; have := HL0.out; omega); intro v114 w8 ho hb hg hat; rw [← NS.out] at ho; have n0_ := Aside0.mk hb; have n1_ := Aside0.mk ho; clear ho hb hg hat))
          go_roundw
          case rel => exact ⟨j + 1, by have := HLT2.out; omega, by go_num, n0_, n1_⟩
          case measure => simp [intOf]; have := HLT2.out; omega
        · obtain rfl : j = L := by omega
          have hO8 := HO6.out.below HBW.out
          have hroN := row_only (S := fun _ => False) HROW.out (Only.of_below HBW.out _) (fun _ e => e.elim)
          have hroT : wr.ownsRow w6.heap.size 9 1 _ (textsTo M5 j).length ((textsTo M5 j).map .string) := Kd.own_of_R HR2.out
          have htl := textsTo_len M5 (j := j) (by rw [HLD.out]; exact Nat.le_refl _)
          have hlt5 := HO.out.lt
          have hs56 := HB6.out.size
          have hcr := hO8.crash HI5.out (by have := HKN.out; omega) (by have := HKN.out; omega) b2.f3 B2 e2 b2.f4 HK2.out HL2.out
          have hx2 := HX2.out.below hO8.bel
          have y3 := cells_of hx2 3 rfl
          have y4 := cells_of hx2 4 rfl
          have HRN := Aside0.mk hroN; have HRT := Aside0.mk hroT; have HTL := Aside0.mk htl; have HLT5 := Aside0.mk hlt5; have HS56 := Aside0.mk hs56
          clear hO8 hroN hroT htl hlt5 hs56 hx2
          have HI6 := Aside0.mk (HI5.out.crash b2.f3 b2.f4)
          generalize crashF M5 b2.f3 b2.f4 = M6 at *
          go_wp2_with fail
          refine hcr.mono ?_
          rintro e w9 ⟨rfl, own9, hO9, -, hW9⟩
          have rn := row_only HRN.out hW9 HLT5.out
          have rt := row_only HRT.out hW9 (fun k hk => Nat.lt_of_lt_of_le (HLT5.out k hk) HS56.out)
          obtain ⟨A7, c7, rfl, hc7, hk7⟩ := row_reads rt
          obtain ⟨A6', c6', e6, -, hk6⟩ := row_reads rn
          rw [← HLL.out] at e6 hk6
          simp only [Value.slice.injEq] at e6
          obtain ⟨rfl, -, rfl⟩ := e6
          rw [HTL.out] at hk7 hc7 ⊢
          have HO9 := Aside0.mk hO9; have HK6 := Aside0.mk hk6; have HK7 := Aside0.mk hk7
          clear hcr y3 y4 rn rt hk6 hk7 hO9 hW9
          obtain ⟨wo2, rfl⟩ : ∃ wo2, wo2 = wr := ⟨_, rfl⟩
          go_wp2_with fail
          go_loopw [14] (fun i wr => ∃ q : Nat, q ≤ j ∧ i = .int .i64 q ∧ wr = w9) (fun i _ => j - (intOf i).toNat)
          case atStart => exact ⟨0, Nat.zero_le _, rfl, by first | rfl | trivial⟩
          case round =>
            obtain ⟨q, hq, rfl, rfl⟩ := hrel
            by_cases hlt3 : q < j
            · have hqd : q < M5.dir.length := by rw [← HLD.out]; exact hlt3
              obtain ⟨p1, p2, p3, p4, p5, p7, p6⟩ := HP.out q hqd
              obtain ⟨ad6, rfl, hcell⟩ := Kd.at_string HK6.out (q : Int) (by omega) (by omega)
              obtain ⟨ad7, rfl, hcell7⟩ := Kd.at_string HK7.out (q : Int) (by omega) (by omega)
              rw [names_at' M5 q hqd, Int.toNat_natCast] at hcell
              rw [textsTo_at M5 hlt3 (by rw [HLD.out]; exact Nat.le_refl _), Int.toNat_natCast] at hcell7
              have hrd := HO9.out.at_.read (fun i => Nat.le_trans (HI6.out.fits i) (by have := HKN.out; omega)) (bsS (M5.dir.getD q ([], 0)).1) (by rw [bsS_size]; unfold maxLen; omega)
              rw [bsS_list, HTW.out.2, p4] at hrd
              generalize bsS (M5.files.getD (M5.dir.getD q ([], 0)).2 ([], 0)).1 = fs at hrd hcell7
              generalize bsS (M5.dir.getD q ([], 0)).1 = nm at hrd hcell
              have hltz : (q : Int) < (j : Int) := by omega
              have hne : (fs.toList != fs.toList) = false := by simp
              have HLT3 := Aside0.mk hlt3
              clear p1 p2 p3 p4 p5 p6 p7
              go_wp2_with fail
              refine hrd.mono ?_
              rintro e w10 ⟨rfl, rfl⟩
              go_wp2_with fail
              go_roundw
              case rel => exact ⟨q + 1, by have := HLT3.out; omega, by go_num, by first | rfl | trivial⟩
              case measure => simp [intOf]; have := HLT3.out; omega
            · obtain rfl : q = j := by omega
              have hnm := HO9.out.names (by have h1 := HI6.out.dirL; have h2 := HKN.out; omega)
              rw [namesF_dir HTW.out.1] at hnm
              go_wp2_with fail
              refine hnm.mono ?_
              rintro e w10 ⟨v10, rfl, hrow, hb10⟩
              obtain ⟨A10, c10, rfl, hc10, hk10⟩ := row_reads hrow
              have hkk := Kd.C_below HK6.out hb10
              have HO10 := Aside0.mk (HO9.out.below hb10)
              have hsame := fun W hb => same_calls (namesF M5) (by rw [← HLL.out]; have := HL0.out; omega) A10 A6 c10 c6 W (Kd.C_below hk10 hb) hc10 (by rw [← HLL.out]; exact Kd.C_below hkk hb) (by rw [← HLL.out]; exact HC6.out)
              have hsm := hsame w10 (Below.refl _ _)
              rw [← HLL.out] at hsm ⊢
              clear hsame hkk hk10 hrow hb10 hnm
              go_wp2_with fail
              refine hsm.mono ?_
              rintro e w11 ⟨rfl, hd11⟩
              have HO11 := Aside0.mk (HO10.out.below hd11.below)
              have hsd := HO11.out.at_.syncDir HI6.out (by have := HKN.out; omega)
              rw [HSD.out] at hsd
              clear hd11 hsm
              go_wp2_with fail
              refine hsd.mono ?_
              rintro e w12 ⟨rfl, hA12⟩
              have HA12 := Aside0.mk hA12.bel
              clear hA12 hsd
              go_wp2
              go_ret
              exact ⟨rfl, HB0.out.trans (HA12.out.mono HB0.out.size)⟩
end Go.Proofs.Ytephblclhojffaa.A
