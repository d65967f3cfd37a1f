/- bits.reader.get, bits.Unpack. -/
import Derived.Test.YtimjafjicnlhfaaKrAx0
import Derived.Test.YtimjafjicnlhfaaKrAx4
import Derived.Test.YtimjafjicnlhfaaKrHBits
namespace Go.Proofs.Ytimjafjicnlhfaa.A
open Go.RowKit Go.Proofs.YtimjafjicnlhfaaW.PrintWords Go.Proofs.YtimjafjicnlhfaaW.PrintLast Go.Proofs.YtimjafjicnlhfaaW.PrintMore
set_option linter.unusedVariables false
set_option linter.unusedSimpArgs false
attribute [local go_sem] min2_int min_two
def bitsS (l : List UInt8) : List Bool := l.flatMap (fun b => bitsI b.toNat 8)
theorem bitsS_length : ∀ l : List UInt8, (bitsS l).length = 8 * l.length
  | [] => rfl
  | x :: l => by
    have := bitsS_length l
    simp only [bitsS, List.flatMap_cons, List.length_append, bitsI_length, List.length_cons] at this ⊢
    omega
theorem bitsI_take (n : Int) (a t k : Nat) (h : a + t ≤ k) : ((bitsI n k).drop a).take t = bitsI (n / 2 ^ a) t := by
  obtain ⟨m, rfl⟩ : ∃ m, k = a + (t + m) := ⟨k - a - t, by omega⟩
  rw [bitsI_add a, List.drop_left' (bitsI_length _ _), bitsI_add t, List.take_left' (bitsI_length _ _)]
theorem bitsS_at : ∀ (l : List UInt8) (p t : Nat), p / 8 < l.length → p % 8 + t ≤ 8 → ((bitsS l).drop p).take t = bitsI (((l.getD (p / 8) 0).toNat : Int) / 2 ^ (p % 8)) t
  | [], p, t, h, _ => by simp at h
  | x :: l, p, t, h, h8 => by
    by_cases hp : p < 8
    · have h0 : p / 8 = 0 := by omega
      have h1 : p % 8 = p := by omega
      rw [h0, h1]
      have hx : (bitsI (x.toNat : Int) 8).length = 8 := bitsI_length _ _
      show ((bitsI (x.toNat : Int) 8 ++ bitsS l).drop p).take t = _
      rw [List.drop_append_of_le_length (by omega), List.take_append_of_le_length (by rw [List.length_drop]; omega), bitsI_take _ _ _ _ (by omega)]
      rfl
    · obtain ⟨q, rfl⟩ : ∃ q, p = 8 + q := ⟨p - 8, by omega⟩
      have h0 : (8 + q) / 8 = q / 8 + 1 := by omega
      have h1 : (8 + q) % 8 = q % 8 := by omega
      rw [h0, h1]
      show ((bitsI (x.toNat : Int) 8 ++ bitsS l).drop (8 + q)).take t = _
      rw [← List.drop_drop, List.drop_left' (bitsI_length _ _), bitsS_at l q t (by simp at h; omega) (by omega)]
      rfl
def getI (s : ByteArray) (p w : Nat) : Int := byteOf (((bitsS s.data.toList).drop p).take w)
theorem getI_range (s : ByteArray) (p w : Nat) (h : p + w ≤ 8 * s.size) : 0 ≤ getI s p w ∧ getI s p w < 2 ^ w := by
  have := byteOf_range (((bitsS s.data.toList).drop p).take w)
  have hl : (((bitsS s.data.toList).drop p).take w).length = w := by
    rw [List.length_take, List.length_drop, bitsS_length, show s.data.toList.length = s.size from rfl]; omega
  rw [hl] at this
  exact this
theorem getI_step (s : ByteArray) (p d t : Nat) (h : (p + d) % 8 + t ≤ 8) (ht : 0 < t) (hl : p + d + t ≤ 8 * s.size) (h64 : d + t ≤ 64) :
    Go.bits .or .u64 (getI s p d) ((((s.data.toList.getD ((p + d) / 8) 0).toNat : Int) / 2 ^ ((p + d) % 8)) % 2 ^ t * 2 ^ d) = getI s p (d + t) := by
  have h1 := getI_range s p d (by omega)
  have hb := bitsS_at s.data.toList (p + d) t (by rw [show s.data.toList.length = s.size from rfl]; omega) h
  have hsplit : getI s p (d + t) = getI s p d + 2 ^ d * ((((s.data.toList.getD ((p + d) / 8) 0).toNat : Int) / 2 ^ ((p + d) % 8)) % 2 ^ t) := by
    unfold getI
    rw [List.take_add, List.drop_drop, hb, byteOf_append, byteOf_bitsI]
    rw [show (List.take d (List.drop p (bitsS s.data.toList))).length = d from by rw [List.length_take, List.length_drop, bitsS_length, show s.data.toList.length = s.size from rfl]; omega]
  rw [hsplit]
  generalize (((s.data.toList.getD ((p + d) / 8) 0).toNat : Int) / 2 ^ ((p + d) % 8)) = b
  have hp : (0 : Int) < 2 ^ d := Int.pow_pos (by decide)
  have h2 : 0 ≤ b % 2 ^ t ∧ b % 2 ^ t < 2 ^ t := ⟨Int.emod_nonneg _ (Int.ne_of_gt (Int.pow_pos (by decide))), Int.emod_lt_of_pos _ (Int.pow_pos (by decide))⟩
  have hlt : b % 2 ^ t * 2 ^ d < 2 ^ 64 := by
    refine Int.lt_of_lt_of_le (Int.mul_lt_mul_of_pos_right h2.2 hp) ?_
    rw [← Int.pow_add]
    exact pow2_le _ _ (by omega)
  rw [or_comm_add .u64 64 (by decide) (fun n h0 h1 => IntWalk.u64_in _ (by simp at h1; omega)) d _ _ (Int.mul_nonneg h2.1 (Int.le_of_lt hp)) (Int.mul_emod_left _ _) hlt h1.1 h1.2 (Int.lt_of_lt_of_le h1.2 (pow2_le _ _ (by omega))), Int.mul_comm]
theorem part_facts (b : Int) (t a d : Nat) (hb : 0 ≤ b ∧ b < 256) (h : a + t ≤ 8) (h64 : d + t ≤ 64) :
    IntKind.u64.wrap (2 ^ t) = 2 ^ t ∧ IntKind.u64.wrap (2 ^ t - 1) = 2 ^ t - 1 ∧ IntKind.u64.wrap (b / 2 ^ a) = b / 2 ^ a ∧ Go.bits .and .u64 (b / 2 ^ a) (2 ^ t - 1) = b / 2 ^ a % 2 ^ t ∧ IntKind.u64.wrap (b / 2 ^ a % 2 ^ t * 2 ^ d) = b / 2 ^ a % 2 ^ t * 2 ^ d ∧ 0 ≤ b / 2 ^ a := by
  have h1 := pow2_le t 8 (by omega)
  have h3 : (2 : Int) ^ 8 = 256 := by decide
  have h0 : (1 : Int) ≤ 2 ^ t := Int.pow_pos (by decide)
  have hq : 0 ≤ b / 2 ^ a ∧ b / 2 ^ a < 256 := ⟨Int.ediv_nonneg hb.1 (Int.le_of_lt (Int.pow_pos (by decide))), Int.lt_of_le_of_lt (Int.ediv_le_self _ hb.1) hb.2⟩
  generalize b / 2 ^ a = m at *
  have h2 : 0 ≤ m % 2 ^ t ∧ m % 2 ^ t < 2 ^ t := ⟨Int.emod_nonneg _ (by omega), Int.emod_lt_of_pos _ (by omega)⟩
  have hp : (0 : Int) < 2 ^ d := Int.pow_pos (by decide)
  have hlt : m % 2 ^ t * 2 ^ d < 2 ^ 64 := by
    refine Int.lt_of_lt_of_le (Int.mul_lt_mul_of_pos_right h2.2 hp) ?_
    rw [← Int.pow_add]
    exact pow2_le _ _ (by omega)
  have h5 := Int.mul_nonneg h2.1 (Int.le_of_lt hp)
  simp at hlt
  refine ⟨IntWalk.u64_in _ (by omega), IntWalk.u64_in _ (by omega), IntWalk.u64_in _ (by omega), ?_, IntWalk.u64_in _ (by omega), hq.1⟩
  exact bits_mask .u64 64 (by decide) (fun n h0 h1 => IntWalk.u64_in _ (by simp at h1; omega)) t (by omega) m hq.1 (by simp; omega)
theorem byte_range0 (c : UInt8) : 0 ≤ (c.toNat : Int) ∧ (c.toNat : Int) < 256 := by have := c.toNat_lt; omega
set_option maxHeartbeats 4000000 in
set_option maxRecDepth 100000 in
theorem get.calls (w0 w : World) (g : Nat) (s : ByteArray) (p wd : Nat) (hB : Below w0.heap.size w0 w) (hg : w0.heap.size ≤ g)
    (hb : w.heap[g]? = some (.cells #[.string s, .int .i64 p] 116 (0, 0))) (hw : wd ≤ 64) (hl : p + wd ≤ 8 * s.size) (hs : p + wd ≤ 1099511627776) :
    Calls Try.prog 90 #[.pointer (some ⟨g, 0, none⟩), .int .i64 wd] w fun e w' => e = .returned (.int .u64 (getI s p wd)) ∧ Below w0.heap.size w0 w' ∧ KeepBut w w' g none ∧
      w'.heap[g]? = some (.cells #[.string s, .int .i64 (p + wd : Nat)] 116 (0, 0)) := by
  have HB := Aside0.mk hB; have HG := Aside0.mk hg; have HBK := Aside0.mk hb; have HL := Aside0.mk hl; have HW := Aside0.mk hw; have HS := Aside0.mk hs
  clear hB hg hb hl hw hs
  go_enter Try.func90, Try.ntmps90
  go_wp2_with fail
  go_loopg [5, 6] wd (fun gg s5 s6 wr => ∃ d : Nat, d ≤ wd ∧ wd - d ≤ gg ∧ s5 = .int .u64 (getI s p d) ∧ s6 = .int .i64 d ∧ Aside0 (Below w0.heap.size w0 wr) ∧ Aside0 (KeepBut w wr g none) ∧
    Aside0 (wr.heap[g]? = some (.cells #[.string s, .int .i64 (p + d : Nat)] 116 (0, 0))))
  case atStart => exact ⟨0, by omega, by omega, by simp [getI, byteOf], rfl, HB, ⟨KeepBut.refl _ _ _⟩, HBK⟩
  case round =>
    obtain ⟨d, hd, hgg, rfl, rfl, HB1, HK1, HBK1⟩ := hrel
    by_cases hlt : d < wd
    · have hltn : decide (d < wd) = true := decide_eq_true hlt
      obtain ⟨P, hP⟩ : ∃ P : Nat, P = p + d := ⟨_, rfl⟩
      obtain ⟨tk, htk⟩ : ∃ tk : Nat, tk = min (wd - d) (8 - P % 8) := ⟨_, rfl⟩
      have hmn : (if (8 - (P : Int) % 8) < (wd : Int) - d then (8 - (P : Int) % 8) else (wd : Int) - d) = (tk : Int) := by rw [htk]; split <;> omega
      have htk1 : 0 < tk ∧ d + tk ≤ wd ∧ P % 8 + tk ≤ 8 := by omega
      have hPl : P + tk ≤ 8 * s.size := by have := HL.out; omega
      have hP4 : P + tk ≤ 1099511627776 := by have := HS.out; omega
      have hw64 : wd ≤ 64 := HW.out
      rw [← hP] at HBK1
      have hc0 := (blk_cell HBK1.out 0).trans rfl
      have hc1 := (blk_cell HBK1.out 1).trans rfl
      have hf1 := blk_frozen HBK1.out 1
      have hby : ∀ h : P / 8 < s.size, ((s[P / 8]'h).toNat : Int) = ((s.data.toList.getD (P / 8) 0).toNat : Int) := fun h => by
        rw [List.getD_eq_getElem?_getD, Array.getElem?_toList, Array.getElem?_eq_getElem h]; rfl
      have hk8 : P / 8 < s.size := by omega
      have hdv : IntKind.i64.wrap ((P : Int) / 8) = ((P / 8 : Nat) : Int) := by rw [IntWalk.i64_in _ (by omega)]; omega
      have hgs := getI_step s p d tk (by rw [← hP]; omega) htk1.1 (by rw [← hP]; exact hPl) (by omega)
      rw [← hP] at hgs
      have hbr := byte_range0 (s.data.toList.getD (P / 8) 0)
      generalize ((s.data.toList.getD (P / 8) 0).toNat : Int) = b at *
      generalize P / 8 = kq at *
      have hlz : decide (kq < s.size) = true := decide_eq_true hk8
      have hkz : ((0 : Int) ≤ (kq : Int)) = True := eq_true (by omega)
      have HGS := Aside0.mk hgs; have HTK := Aside0.mk htk1; have HPP := Aside0.mk hP; have HGT := Aside0.mk (And.intro hd (And.intro hgg hlt))
      clear hgs htk htk1 hP hd hgg hlt
      obtain ⟨hs1, hs2, hs3, hs4, hs5, hs6⟩ := part_facts b tk (P % 8) d hbr HTK.out.2.2 (by have := HTK.out; omega)
      have h64 : (tk : Int) ≤ 64 := by have := HTK.out; omega
      have hd64 : (d : Int) ≤ 64 := by have := HTK.out; omega
      have h88 : (P : Int) % 8 ≤ 8 := by omega
      have h80 : 0 ≤ (P : Int) % 8 := by omega
      have htn : ((P : Int) % 8).toNat = P % 8 := by omega
      have hHGS := HGS.out
      have hpt : IntKind.i64.wrap ((P : Int) + (tk : Int)) = (P : Int) + tk := IntWalk.i64_in _ (by have := HTK.out; omega)
      go_wp2_with fail
      go_quiet (fail)
      go_wp2_with fail
      go_roundg (wd - (d + tk))
      case measure => have := HTK.out; have := HGT.out; omega
      case rel =>
        have h1 := HTK.out
        refine ⟨d + tk, h1.2.1, by omega, rfl, by push_cast; rfl, ⟨?_⟩, ⟨?_⟩, ⟨?_⟩⟩
        · exact below_set (by apply pw_below_drewN; exact HB1.out) HG.out
        · exact KeepBut.set_ (keep_drewN HK1.out _) _ _
        · have hB5 := blk_set (blk_drewN HBK1.out nq) 1 (.int .i64 ((P : Int) + tk))
          simp only [List.setIfInBounds_toArray, List.set_cons_succ, List.set_cons_zero] at hB5
          rw [← Nat.add_assoc, ← HPP.out, Int.natCast_add]
          exact hB5
    · have hde : d = wd := by omega
      subst hde
      have hltn : decide (d < d) = false := decide_eq_false (by omega)
      go_wp2_with fail
      go_ret
      exact ⟨rfl, HB1.out, HK1.out, HBK1.out⟩
end Go.Proofs.Ytimjafjicnlhfaa.A
