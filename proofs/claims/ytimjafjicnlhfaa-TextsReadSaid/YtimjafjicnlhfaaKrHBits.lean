/- bits.writer.put. -/
import Derived.Test.YtimjafjicnlhfaaKrAx0
import Derived.Test.YtimjafjicnlhfaaKrAx2
import Derived.Test.YtimjafjicnlhfaaKrAx4
import Derived.Test.YtimjafjicnlhfaaKrHBitsP
import Derived.Deep.RegionLaw
import Derived.StillTailTactics
namespace Go.Proofs.Ytimjafjicnlhfaa.A
open Go.RowKit Go.Proofs.YtimjafjicnlhfaaW.PrintWords Go.Proofs.YtimjafjicnlhfaaW.PrintLast Go.Proofs.YtimjafjicnlhfaaW.PrintMore
set_option linter.unusedVariables false
set_option linter.unusedSimpArgs false
attribute [local go_sem] min2_int min_two
theorem div_range {n : Int} (h : 0 ≤ n ∧ n < 18446744073709551616) (d : Nat) : 0 ≤ n / 2 ^ d ∧ n / 2 ^ d < 18446744073709551616 := by
  have hp : (0 : Int) < 2 ^ d := Int.pow_pos (by decide)
  exact ⟨Int.ediv_nonneg h.1 (Int.le_of_lt hp), Int.lt_of_le_of_lt (Int.ediv_le_self _ h.1) h.2⟩
theorem pow2_le (a b : Nat) (h : a ≤ b) : (2 : Int) ^ a ≤ 2 ^ b := by
  have h2 : ((2 ^ a : Nat) : Int) ≤ ((2 ^ b : Nat) : Int) := Int.ofNat_le.2 (Nat.pow_le_pow_right (by decide) h)
  simpa using h2
theorem shift_facts (m : Int) (t len : Nat) (hm : 0 ≤ m ∧ m < 18446744073709551616) (h : len % 8 + t ≤ 8) :
    IntKind.u64.wrap (2 ^ t) = 2 ^ t ∧ IntKind.u64.wrap (2 ^ t - 1) = 2 ^ t - 1 ∧ Go.bits .and .u64 m (2 ^ t - 1) = m % 2 ^ t ∧ m % 2 ^ t % 256 = m % 2 ^ t ∧ m % 2 ^ t * 2 ^ (len % 8) % 256 = m % 2 ^ t * 2 ^ (len % 8) := by
  have h1 := pow2_le t 8 (by omega)
  have h0 : (1 : Int) ≤ 2 ^ t := Int.pow_pos (by decide)
  have h2 : 0 ≤ m % 2 ^ t ∧ m % 2 ^ t < 2 ^ t := ⟨Int.emod_nonneg _ (by omega), Int.emod_lt_of_pos _ (by omega)⟩
  have h3 : (2 : Int) ^ 8 = 256 := by decide
  have h4 : (1 : Int) ≤ 2 ^ (len % 8) := Int.pow_pos (by decide)
  have h5 : m % 2 ^ t * 2 ^ (len % 8) < 256 := by
    refine Int.lt_of_lt_of_le (Int.mul_lt_mul_of_pos_right h2.2 (by omega)) ?_
    rw [← Int.pow_add, ← h3]
    exact pow2_le _ _ (by omega)
  have h6 := Int.mul_nonneg h2.1 (show (0 : Int) ≤ 2 ^ (len % 8) by omega)
  refine ⟨IntWalk.u64_in _ (by omega), IntWalk.u64_in _ (by omega), ?_, Int.emod_eq_of_lt h2.1 (by omega), ?_⟩
  · exact bits_mask .u64 64 (by decide) (fun n h0 h1 => IntWalk.u64_in _ (by simp at h1; omega)) t (by omega) m hm.1 (by simpa using hm.2)
  · omega
theorem openB_at (bs : List Bool) : (encs (Value.int .u8) (openB bs))[bs.length / 8]? = some (.int .u8 (byteOf (restB bs))) := by
  have h := openB_length bs
  have h1 : (openB bs)[bs.length / 8]? = some (byteOf (restB bs)) := by
    unfold openB
    rw [List.getElem?_append_right (by rw [packB_full_length _ _ (fullB_length bs)]; exact Nat.le_refl _), packB_full_length _ _ (fullB_length bs), Nat.sub_self]
    rfl
  simp [encs, h1]
theorem own_cell {w : World} {base : Nat} {e : TypeId} {size : Nat} {g n c : Nat} {m : Nat} {xs : List Value} {v : Value} (h : w.ownsRow base e size v m xs) (hv : v = .slice (some ⟨g, 0, none⟩) n c) (k : Nat) (u : Value) (hu : xs[k]? = some u) : w.cell? ⟨g, k, none⟩ = some u := by
  have := h.cells (g := g) (by rw [hv]; rfl) k u hu
  unfold Addr.add at this
  by_cases hk : k = 0
  · subst hk; simpa using this
  · simpa [hk] using this
theorem own_frozen {w : World} {base : Nat} {e : TypeId} {size : Nat} {g n c : Nat} {m : Nat} {xs : List Value} {v : Value} (h : w.ownsRow base e size v m xs) (hv : v = .slice (some ⟨g, 0, none⟩) n c) (k : Nat) : w.frozen? ⟨g, k, none⟩ = false := by
  rcases h.2 with ⟨rfl, _⟩ | ⟨g', cap, cur, rfl, hbg, hg, _⟩
  · cases hv
  · cases hv
    exact blk_frozen hg k
set_option maxHeartbeats 4000000 in
set_option maxRecDepth 100000 in
theorem put.calls (w0 w : World) (g : Nat) (v : Value) (bs : List Bool) (n : Int) (wd : Nat) (hB : Below w0.heap.size w0 w) (hg : w0.heap.size ≤ g)
    (hb : w.heap[g]? = some (.cells #[v, .int .i64 bs.length] 74 (0, 0))) (hR : Kd.R (Kd.int .u8) 5 w w0.heap.size (fun _ => True) v (packB bs))
    (hw : wd ≤ 64) (hn : 0 ≤ n ∧ n < 18446744073709551616) (hl : bs.length ≤ 1099511627776) :
    Calls Try.prog 54 #[.pointer (some ⟨g, 0, none⟩), .int .u64 n, .int .i64 wd] w fun e w' => ∃ v', e = .returned (.tuple #[]) ∧ Below w0.heap.size w0 w' ∧
      w'.heap[g]? = some (.cells #[v', .int .i64 (bs ++ bitsI n wd).length] 74 (0, 0)) ∧ Kd.R (Kd.int .u8) 5 w' w0.heap.size (fun _ => True) v' (packB (bs ++ bitsI n wd)) := by
  have HB := Aside0.mk hB; have HG := Aside0.mk hg; have HBK := Aside0.mk hb; have HR := Aside0.mk hR; have HN := Aside0.mk hn; have HL := Aside0.mk hl; have HW := Aside0.mk hw
  clear hB hg hb hR hn hl hw
  go_enter Try.func54, Try.ntmps54
  go_wp2_with fail
  go_loopg [1, 2] wd (fun gg s1 s2 wr => ∃ (d : Nat) (v1 : Value), d ≤ wd ∧ wd - d ≤ gg ∧ s1 = .int .u64 (n / 2 ^ d) ∧ s2 = .int .i64 (wd - d : Nat) ∧ Aside0 (Below w0.heap.size w0 wr) ∧
    Aside0 (wr.heap[g]? = some (.cells #[v1, .int .i64 (bs ++ bitsI n d).length] 74 (0, 0))) ∧ Aside0 (Kd.R (Kd.int .u8) 5 wr w0.heap.size (fun _ => True) v1 (packB (bs ++ bitsI n d))))
  case atStart => exact ⟨0, v, by omega, by omega, by simp, rfl, ⟨HB.out⟩, ⟨by simpa [bitsI] using HBK.out⟩, ⟨by simpa [bitsI] using HR.out⟩⟩
  case round =>
    obtain ⟨d, v1, hd, hgg, rfl, rfl, HB1, HBK1, HR1⟩ := hrel
    by_cases hlt : d < wd
    · have hz : decide ((0 : Int) < ((wd - d : Nat) : Int)) = true := decide_eq_true (by omega)
      have hbl : (bs ++ bitsI n d).length = bs.length + d := by rw [List.length_append, bitsI_length]
      have hml : (bs ++ bitsI n d).length ≤ 1099511627776 + 64 := by rw [hbl]; have := HL.out; have := HW.out; omega
      have hsub : ((wd - d : Nat) : Int) = (wd : Int) - d := by omega
      obtain ⟨q, hq⟩ : ∃ q : Nat, q = wd - d := ⟨_, rfl⟩
      obtain ⟨m, hm⟩ : ∃ m : Int, m = n / 2 ^ d := ⟨_, rfl⟩
      obtain ⟨bx, hbx⟩ : ∃ bx : List Bool, bx = bs ++ bitsI n d := ⟨_, rfl⟩
      have hm0 : 0 ≤ m ∧ m < 18446744073709551616 := by rw [hm]; exact div_range HN.out d
      rw [← hbx] at HBK1 HR1 hml
      rw [← hm]
      rw [← hq] at hz ⊢
      have HQ := Aside0.mk (And.intro hq (And.intro hm (And.intro hbx hlt))); have HML := Aside0.mk hml; have HM0 := Aside0.mk hm0
      have hq0 : 0 < q := by omega
      have hq64 : q ≤ 64 := by have := HW.out; omega
      clear hbl hsub hq hm hbx hml hm0 hlt
      obtain ⟨A1, c1, hv1⟩ := Kd.R_slice HR1.out
      subst hv1
      have hc0 := (blk_cell HBK1.out 0).trans rfl
      have hc1 := (blk_cell HBK1.out 1).trans rfl
      have hf0 := blk_frozen HBK1.out 0
      have hf1 := blk_frozen HBK1.out 1
      have hrem : Int.tmod (bx.length : Int) 8 = ((bx.length % 8 : Nat) : Int) := by rw [Int.tmod_eq_emod_of_nonneg (by omega)]; omega
      obtain ⟨tk, htk⟩ : ∃ tk : Nat, tk = min q (8 - bx.length % 8) := ⟨_, rfl⟩
      have hmn : (if (8 - (bx.length : Int) % 8) < (q : Int) then (8 - (bx.length : Int) % 8) else (q : Int)) = (tk : Int) := by rw [htk]; split <;> omega
      have htk1 : 0 < tk ∧ tk ≤ q ∧ bx.length % 8 + tk ≤ 8 := by omega
      have HTK := Aside0.mk htk1
      have HREM := Aside0.mk hrem
      clear htk htk1
      rcases Nat.eq_zero_or_pos (bx.length % 8) with hat | hat
      have hg1 : (((bx.length : Int) % 8) == 0) = true := by rw [beq_iff_eq]; omega
      have HAT := Aside0.mk hat
      clear hat
      go_wp2_with (first | (at_builtin; refine Kd.R_append (Kd.int .u8) (w0 := w0) w0.heap.size rfl (.tmp 20) (.tmp 21) 36 5 (.int .u8 0) 1 rfl Try.underlying36 info5 rfl (by decide) (by omega) (.slice A1 (packB bx).length c1) (packB bx) 0 [.int .u8 0] (fun _ => True) (fun _ => False) rfl rfl rfl (fun _ hk => hk.elim) (fun _ _ => trivial) HR1.out HB1.out HB1.out.size (by rw [packB_length]; have := HML.out; omega) ?_; intro v2 w2 ho hb hgr hat2; (rw [← openB_new bx HAT.out] at ho); (obtain ⟨A3, c3, hv3⟩ := Kd.R_slice ho); subst hv3; (have hbk := blk_grown HBK1.out hgr (Kd.R_ne HR1.out HBK1.out (by decide))); (have hc0 := (blk_cell hbk 0).trans rfl); (have hf0 := blk_frozen hbk 0); (have hc1 := (blk_cell hbk 1).trans rfl); (have hf1 := blk_frozen hbk 1); (have HR2 := Aside0.mk ho); (have HB2 := Aside0.mk hb); (have HBK2 := Aside0.mk hbk); clear hg1 hat2 hgr ho hb hbk))
      have hb3 := blk_set HBK2.out 0 (.slice A3 (openB bx).length c3)
      have hr3 := Kd.R_set HR2.out HBK2.out (by decide) 0 (.slice A3 (openB bx).length c3)
      have hbl3 := below_set (j := 0) (v := .slice A3 (openB bx).length c3) HB2.out HG.out
      simp only [List.setIfInBounds_toArray, List.set_cons_zero] at hb3
      clear HBK1 HR1 HB1 HBK2 HR2 HB2 hc0 hc1 hf0 hf1 HAT
      generalize (w2.setCell ⟨g, 0, none⟩ (.slice A3 (openB bx).length c3)) = wz at *
      clear w2
      rotate_left
      have hg1 : (((bx.length : Int) % 8) == 0) = false := by rw [beq_eq_false_iff_ne]; omega
      have hb3 := HBK1.out
      have hr3 := HR1.out
      have hbl3 := HB1.out
      rw [← openB_old bx (by omega)] at hb3 hr3
      go_wp2_with fail
      clear HBK1 HR1 HB1 hc0 hc1 hf0 hf1 hat hg1
      generalize A1 = A3 at *
      generalize c1 = c3 at *
      generalize wr = wz at *
      all_goals (
        obtain ⟨kk, hkk⟩ : ∃ kk : Nat, kk = bx.length / 8 := ⟨_, rfl⟩
        have hol := openB_length bx
        rw [← hkk] at hol
        rw [hol] at hb3 hr3
        obtain ⟨g3, cc, hv3, hbg3, hgl3⟩ := (Kd.own_of_R hr3).form (by rw [hol]; omega)
        injection hv3 with hv4 hv5 hv6
        clear hv5
        subst hv6
        subst hv4
        have hck := own_cell (Kd.own_of_R hr3) rfl kk (.int .u8 (byteOf (restB bx))) (by rw [hkk]; exact openB_at bx)
        have hfk : wz.frozen? ⟨g3, kk, none⟩ = false := own_frozen (Kd.own_of_R hr3) rfl kk
        have hc0 := (blk_cell hb3 0).trans rfl
        have hlz : ((kk : Int) < (kk : Int) + 1) = True := eq_true (by omega)
        obtain ⟨hs1, hs2, hs3, hs4, hs5⟩ := shift_facts m tk bx.length HM0.out (by have := HTK.out; omega)
        have hor := or_ext bx m tk HTK.out.2.2
        have hwk : IntKind.i64.wrap (kk : Int) = (kk : Int) := IntWalk.i64_in _ (by have := HML.out; omega)
        have hkz : ((0 : Int) ≤ (kk : Int)) = True := eq_true (by omega)
        have h64 : (tk : Int) ≤ 64 := by have := HTK.out; omega
        have h88 : (bx.length : Int) % 8 ≤ 8 := by omega
        have h80 : 0 ≤ (bx.length : Int) % 8 := by omega
        have htn : ((bx.length : Int) % 8).toNat = bx.length % 8 := by omega
        have hc1 := (blk_cell hb3 1).trans rfl
        have hf1 := blk_frozen hb3 1
        have hne : ¬ g = g3 := fun e => Kd.R_ne hr3 hb3 (by decide) (by rw [e]; rfl)
        have hne' : ¬ g3 = g := fun e => hne e.symm
        have hwl : IntKind.i64.wrap ((bx.length : Int) + (tk : Int)) = (bx.length : Int) + tk := IntWalk.i64_in _ (by have := HML.out; have := HTK.out; omega)
        have HB3 := Aside0.mk hb3; have HR3 := Aside0.mk hr3; have HBL3 := Aside0.mk hbl3; have HKK := Aside0.mk hkk
        clear hb3 hr3 hbl3 hkk hol
        go_still_tail 22, (by kernel_rfl)
        change wpList _ _ _ _ _ wz.drew
        go_wp2_with fail
        go_roundg (q - tk)
        case measure => have := HTK.out; have := HQ.out; omega
        case rel =>
          have hR4 := Kd.R_putn HR3.out (kk : Int) (byteOf (restB bx) + 2 ^ (bx.length % 8) * byteOf (bitsI m tk))
          rw [Int.toNat_natCast, HKK.out, openB_set, ← packB_ext bx (bitsI m tk) (by rw [bitsI_length]; exact HTK.out.1) (by rw [bitsI_length]; exact HTK.out.2.2), ← HKK.out] at hR4
          have hB4 := blk_far HB3.out (p := ⟨g3, kk, none⟩) (fun e => hne e) (.int .u8 (byteOf (restB bx) + 2 ^ (bx.length % 8) * byteOf (bitsI m tk)))
          have hL4 := below_set (j := kk) (v := .int .u8 (byteOf (restB bx) + 2 ^ (bx.length % 8) * byteOf (bitsI m tk))) HBL3.out hbg3
          generalize (wz.setCell ⟨g3, kk, none⟩ (.int .u8 (byteOf (restB bx) + 2 ^ (bx.length % 8) * byteOf (bitsI m tk)))) = w4 at *
          obtain ⟨hq, hm, hbx, hlt⟩ := HQ.out
          have hbb : bs ++ bitsI n (d + tk) = bx ++ bitsI m tk := by rw [bitsI_add, ← List.append_assoc, hbx, hm]
          have hB5 := blk_set hB4 1 (.int .i64 ((bx.length : Int) + tk))
          have hR5 := Kd.R_set hR4 hB4 (by decide) 1 (.int .i64 ((bx.length : Int) + tk))
          have hL5 := below_set (j := 1) (v := .int .i64 ((bx.length : Int) + tk)) hL4 HG.out
          have h1 := HTK.out
          refine ⟨d + tk, .slice (some ⟨g3, 0, none⟩) (kk + 1) c3, by omega, by omega, ?_, by congr 1; omega, ⟨below_drew hL5⟩, ⟨?_⟩, ⟨?_⟩⟩
          · rw [hm, Int.pow_add, Int.ediv_ediv_of_nonneg (Int.le_of_lt (Int.pow_pos (by decide)))]
          · rw [hbb, List.length_append, bitsI_length]
            simp only [List.setIfInBounds_toArray, List.set_cons_succ, List.set_cons_zero] at hB5
            rw [Int.natCast_add]
            exact hB5
          · rw [hbb]
            exact Kd.R_drew hR5)
    · have hde : d = wd := by omega
      subst hde
      have hz : decide ((0 : Int) < ((d - d : Nat) : Int)) = false := decide_eq_false (by omega)
      go_wp2_with fail
      go_end0
      exact ⟨v1, rfl, HB1.out, HBK1.out, HR1.out⟩
end Go.Proofs.Ytimjafjicnlhfaa.A
