/- A deed that fits, written and read again: plain. -/
import Derived.Test.YtojcbknclfamhaaDoorKlAx0
import Derived.Test.YtojcbknclfamhaaDoorKlAx22
import Derived.Test.YtojcbknclfamhaaDoorKlAx7
import Derived.Test.YtojcbknclfamhaaDoorKlAx9
import Derived.Test.YtojcbknclfamhaaDoorKlHPlA
import Derived.Test.YtojcbknclfamhaaDoorKlHDRead
import Derived.Laws.Bits64
namespace Go.Proofs.YtojcbknclfamhaaDoor.A
open Go.RowKit Go.Proofs.YtojcbknclfamhaaDoorW.PrintWords Go.Proofs.YtojcbknclfamhaaDoorW.PrintLast Go.Proofs.YtojcbknclfamhaaDoorW.PrintMore
set_option linter.unusedVariables false
set_option linter.unusedSimpArgs false
theorem wraps_u64 (n : Int) (h₀ : 0 ≤ n) (h₁ : n < 2 ^ 64) : IntKind.u64.wrap n = n := IntWalk.u64_in _ (by simp at h₁; omega)
theorem xor_ones (a : Nat) (h : a < 18446744073709551616) : 18446744073709551615 ^^^ a = 18446744073709551615 - a := by
  have h1 : ((BitVec.allOnes 64) ^^^ (BitVec.ofNat 64 a)) = ~~~ (BitVec.ofNat 64 a) := BitVec.not_def.symm
  have h2 := congrArg BitVec.toNat h1
  rw [BitVec.toNat_xor, BitVec.toNat_not, BitVec.toNat_allOnes, BitVec.toNat_ofNat, Nat.mod_eq_of_lt (by omega)] at h2
  simpa using h2
def zz (n : Int) : Int := if 0 ≤ n then 2 * n else -2 * n - 1
theorem zz_range (n : Int) (h0 : -9223372036854775808 ≤ n) (h1 : n < 9223372036854775808) : 0 ≤ zz n ∧ zz n < 18446744073709551616 := by
  unfold zz; split <;> omega
theorem zz_w (n : Int) (h0 : -9223372036854775808 ≤ n) (h1 : n < 9223372036854775808) : Go.bits .xor .u64 (IntKind.u64.wrap (wrap64 (n * 2))) (IntKind.u64.wrap (n / 9223372036854775808)) = zz n := by
  rw [IntKind.wrap_u64, IntKind.wrap_u64]
  unfold zz
  by_cases hn : 0 ≤ n
  · rw [if_pos hn]
    have e1 : wrap64 (n * 2) % 18446744073709551616 = ((2 * n.toNat : Nat) : Int) := by unfold wrap64; omega
    have e2 : n / 9223372036854775808 % 18446744073709551616 = ((0 : Nat) : Int) := by omega
    rw [e1, e2, bits_xor_u64_nat _ _ (by omega) (by omega), Nat.xor_zero]
    omega
  · rw [if_neg hn]
    have e1 : wrap64 (n * 2) % 18446744073709551616 = (((2 * n + 18446744073709551616).toNat : Nat) : Int) := by unfold wrap64; omega
    have e2 : n / 9223372036854775808 % 18446744073709551616 = ((18446744073709551615 : Nat) : Int) := by omega
    rw [e1, e2, bits_xor_u64_nat _ _ (by omega) (by omega), Nat.xor_comm, xor_ones _ (by omega)]
    omega
theorem i64_xor (x : Int) (h0 : 0 ≤ x) (h1 : x < 9223372036854775808) : Go.bits .xor .i64 x 0 = x ∧ Go.bits .xor .i64 x (-1) = -x - 1 := by
  obtain ⟨a, rfl⟩ := Int.eq_ofNat_of_zero_le h0
  have ha : (BitVec.ofInt 64 (a : Int)).toNat = a := by
    rw [BitVec.ofInt_natCast, BitVec.toNat_ofNat]; exact Nat.mod_eq_of_lt (by omega)
  constructor
  · show IntKind.i64.wrap ((BitVec.ofInt 64 (a : Int) ^^^ BitVec.ofInt 64 0).toNat : Int) = _
    rw [BitVec.toNat_xor, ha, show (BitVec.ofInt 64 0).toNat = 0 from rfl, Nat.xor_zero]
    exact IntWalk.i64_in _ (by omega)
  · show IntKind.i64.wrap ((BitVec.ofInt 64 (a : Int) ^^^ BitVec.ofInt 64 (-1)).toNat : Int) = _
    rw [BitVec.toNat_xor, ha, show (BitVec.ofInt 64 (-1)).toNat = 18446744073709551615 from by decide, Nat.xor_comm, xor_ones _ (by omega)]
    rw [IntKind.wrap_i64]
    omega
theorem unzz_w (m : Int) (h0 : 0 ≤ m) (h1 : m < 18446744073709551616) : Go.bits .xor .i64 (wrap64 (m / 2)) (wrap64 (-(wrap64 (Go.bits .and .u64 m 1)))) = if m % 2 = 0 then m / 2 else -(m / 2) - 1 := by
  have e : Go.bits .and .u64 m 1 = m % 2 := bits_mask .u64 64 (by decide) wraps_u64 1 (by decide) m h0 (by simpa using h1)
  rw [e]
  have e1 : wrap64 (m / 2) = m / 2 := by unfold wrap64; omega
  have hx := i64_xor (m / 2) (by omega) (by omega)
  rw [e1]
  by_cases h2 : m % 2 = 0
  · rw [if_pos h2, h2, show wrap64 (-(wrap64 0)) = 0 from by unfold wrap64; omega]
    exact hx.1
  · rw [if_neg h2, show m % 2 = 1 by omega, show wrap64 (-(wrap64 1)) = -1 from by unfold wrap64; omega]
    exact hx.2
theorem unzz (n : Int) : (if zz n % 2 = 0 then zz n / 2 else -(zz n / 2) - 1) = n := by
  unfold zz
  split
  · rw [if_pos (by omega)]; omega
  · rw [if_neg (by omega)]; omega
def intB (n : Int) : List Int := uintB (zz n)
theorem int_f (k : Nat) (acc : List Int) (n : Int) (h0 : -9223372036854775808 ≤ n) (h1 : n < 9223372036854775808) (hk : 8 < k) (ha : acc.length ≤ 1000000000) : tally_Int.f k acc n = some (acc ++ intB n) := by
  unfold tally_Int.f
  have hr := zz_range n h0 h1
  rw [zz_w n h0 h1, uint_f2 k acc (zz n) hr.1 hr.2 hk (by omega)]
  rfl
theorem cint_f (s r : ByteArray) (n : Int) (h0 : -9223372036854775808 ≤ n) (h1 : n < 9223372036854775808) (h : bytesOf s = intB n ++ bytesOf r) : tally_Cursor_Int.f s 0 = some (n, r, 0) := by
  have hr := zz_range n h0 h1
  unfold tally_Cursor_Int.f tally_Cursor_Uint.f tally_Cursor_ok.f tally_next.f
  simp only [Option.bind_some, beq_self_eq_true, if_true]
  rw [nextP_back s (zz n) r hr.1 hr.2 h]
  simp only []
  rw [unzz_w (zz n) hr.1 hr.2, unzz]
theorem ctext_f (k : Nat) (s r t : ByteArray) (ht : t.size ≤ 64) (hs : s.size ≤ 1000000000) (h : bytesOf s = textB t ++ bytesOf r) : tally_Cursor_Text.f (k + 1) s 0 64 = some (t, r, 0) := by
  unfold textB at h
  obtain ⟨z, hz⟩ := bytes_split (s := s) (a := uintB (t.size : Int)) (z := bytesOf t ++ bytesOf r) (by rw [h, List.append_assoc])
  have hn := nextP_back s (t.size : Int) z (by omega) (by omega) (by rw [h, hz, List.append_assoc])
  have hzs : z.size = t.size + r.size := by rw [← bytesOf_length, hz, List.length_append, bytesOf_length, bytesOf_length]
  have e1 : z.extract 0 t.size = t := bytesOf_inj (by rw [bytesOf_take, hz, List.take_left' (bytesOf_length t)])
  have e2 : z.extract t.size z.size = r := bytesOf_inj (by rw [bytesOf_drop, hz, List.drop_left' (bytesOf_length t)])
  have hss : s.size = (uintB (t.size : Int)).length + t.size + r.size := by rw [← bytesOf_length, h, List.length_append, List.length_append, bytesOf_length, bytesOf_length]
  have hu : IntKind.u64.wrap (z.size : Int) = (z.size : Int) := IntWalk.u64_in _ (by omega)
  have hu64 : IntKind.u64.wrap 64 = 64 := by decide
  unfold tally_Cursor_Text.f tally_Cursor_ok.f tally_next.f
  simp only [Option.bind_some, beq_self_eq_true, if_true]
  rw [hn]
  simp only [if_true]
  rw [if_neg (by decide), hu64]
  rw [tally_Cursor_Text.j0]
  rw [if_neg (by rw [decide_eq_true_eq]; omega)]
  rw [hu, if_neg (by omega), if_pos (by omega), if_pos (by omega), Int.toNat_natCast, e1, e2]
def IsV (c : S50) (v : S45) : Prop :=
  (v.f0 = true ∧ c.f1 = true ∧ v.f1 = 0 ∧ v.f2 = ⟨#[]⟩) ∨ (v.f0 = false ∧ c.f0 = 1 ∧ v.f2 = ⟨#[]⟩) ∨ (v.f0 = false ∧ c.f0 ≠ 1 ∧ v.f1 = 0 ∧ v.f2.size ≤ 64)
theorem ba_nil {s : ByteArray} (h : s.toList = []) : s = ⟨#[]⟩ := by
  rw [ByteArray.toList_eq] at h
  cases s with
  | mk d => cases d with
    | mk l => simp at h; subst h; rfl
theorem is_f (c : S50) (v : S45) : ∃ b, kinds_is.f c.f0 c.f1 v.f0 v.f1 v.f2 = some b ∧ (b = true → IsV c v) := by
  unfold kinds_is.f IsV
  by_cases h0 : v.f0 = true
  · rw [if_pos h0]
    by_cases h1 : c.f1 = true
    · rw [if_pos h1]
      refine ⟨_, rfl, fun hb => .inl ⟨h0, h1, ?_⟩⟩
      rw [h0] at hb
      simp only [Bool.true_and, Bool.and_eq_true, beq_iff_eq] at hb
      exact ⟨hb.1, ba_nil hb.2⟩
    · rw [if_neg h1]
      exact ⟨_, rfl, fun hb => by cases hb⟩
  · rw [if_neg h0]
    have h0' : v.f0 = false := by cases hx : v.f0; rfl; exact absurd hx h0
    by_cases h1 : c.f0 = 1
    · rw [if_pos h1]
      refine ⟨_, rfl, fun hb => .inr (.inl ⟨h0', h1, ?_⟩)⟩
      simp only [beq_iff_eq] at hb
      exact ba_nil hb
    · rw [if_neg h1]
      by_cases h2 : v.f1 = 0
      · rw [if_pos h2]
        refine ⟨_, rfl, fun hb => .inr (.inr ⟨h0', h1, h2, ?_⟩)⟩
        have := of_decide_eq_true hb
        omega
      · rw [if_neg h2]
        exact ⟨_, rfl, fun hb => by cases hb⟩
def In64 (v : S45) : Prop := -9223372036854775808 ≤ v.f1 ∧ v.f1 < 9223372036854775808
def flagB (b : Bool) : Int := if b = true then 1 else 0
def valB (c : S50) (v : S45) : List Int := (if c.f1 = true then [flagB v.f0] else []) ++ (if v.f0 = true then [] else if c.f0 = 1 then intB v.f1 else textB v.f2)
theorem flag_f (acc : List Int) (b : Bool) (h : acc.length ≤ 1000000000) : deeds_flag.f acc b = some (acc ++ [flagB b]) := by
  unfold deeds_flag.f flagB
  cases b with
  | true => rw [if_pos rfl, if_pos (by omega), if_pos rfl]
  | false => rw [if_neg (by decide), if_pos (by omega), if_neg (by decide)]
theorem put_j (k : Nat) (acc : List Int) (c : S50) (v : S45) (hv : IsV c v) (h64 : In64 v) (hk : 9 < k) (ha : acc.length ≤ 100000000) : deeds_put.j0 k acc c.f0 c.f1 v.f0 v.f1 v.f2 = some (acc ++ (if v.f0 = true then [] else if c.f0 = 1 then intB v.f1 else textB v.f2)) := by
  obtain ⟨k, rfl⟩ : ∃ m, k = m + 1 := ⟨k - 1, by omega⟩
  rw [deeds_put.j0]
  by_cases h0 : v.f0 = true
  · rw [if_pos h0, if_pos h0, List.append_nil]
  · rw [if_neg h0, if_neg h0]
    by_cases h1 : c.f0 = 1
    · rw [if_pos h1, if_pos h1, int_f k acc v.f1 h64.1 h64.2 (by omega) (by omega)]
      rfl
    · rw [if_neg h1, if_neg h1]
      have hs : v.f2.size ≤ 64 := by
        rcases hv with h | h | h
        · exact absurd h.1 h0
        · exact absurd h.2.1 h1
        · exact h.2.2.2
      rw [text_f2 k acc v.f2 (by omega) (by omega)]
      rfl
theorem put_f3 (k : Nat) (acc : List Int) (c : S50) (v : S45) (hv : IsV c v) (h64 : In64 v) (hk : 9 < k) (ha : acc.length ≤ 10000000) : deeds_put.f k acc c.f0 c.f1 v.f0 v.f1 v.f2 = some (acc ++ valB c v) := by
  unfold deeds_put.f valB
  by_cases h1 : c.f1 = true
  · rw [if_pos h1, if_pos h1, flag_f acc v.f0 (by omega)]
    simp only [Option.bind_some]
    rw [put_j k _ c v hv h64 hk (by rw [List.length_append, List.length_singleton]; omega), List.append_assoc]
  · rw [if_neg h1, if_neg h1, put_j k acc c v hv h64 hk (by omega), List.nil_append]
theorem valB_length (c : S50) (v : S45) (hv : IsV c v) : (valB c v).length ≤ 74 := by
  unfold valB
  rw [List.length_append]
  have h1 : (if c.f1 = true then [flagB v.f0] else []).length ≤ 1 := by split <;> simp
  have h2 : (if v.f0 = true then [] else if c.f0 = 1 then intB v.f1 else textB v.f2).length ≤ 73 := by
    by_cases h0 : v.f0 = true
    · rw [if_pos h0]; simp
    · rw [if_neg h0]
      by_cases h1 : c.f0 = 1
      · rw [if_pos h1]; have := uintB_length (zz v.f1); unfold intB; omega
      · rw [if_neg h1]
        rcases hv with h | h | h
        · exact absurd h.1 h0
        · exact absurd h.2.1 h1
        · have := textB_length v.f2; omega
  omega
theorem IsB.nil : IsB [] := fun y hy => by cases hy
theorem valB_isB (c : S50) (v : S45) (h64 : In64 v) : IsB (valB c v) := by
  unfold valB
  refine IsB.app ?_ ?_
  · split
    · exact IsB.one (by unfold flagB; split <;> omega)
    · exact IsB.nil
  · split
    · exact IsB.nil
    · split
      · exact IsB.uint _ (zz_range v.f1 h64.1 h64.2).1
      · exact (IsB.uint _ (by omega)).app (IsB.bytes _)
theorem byte_f (s r : ByteArray) (b : Int) (h : bytesOf s = b :: bytesOf r) : tally_Cursor_Byte.f s 0 = some (b, r, 0) := by
  have hsz : s.size = r.size + 1 := by rw [← bytesOf_length, h, List.length_cons, bytesOf_length]
  have hb : bt s 0 = b := by
    unfold bytesOf at h
    cases hL : s.data.toList with
    | nil => rw [hL] at h; cases h
    | cons c t => rw [hL, List.map_cons, List.cons.injEq] at h; rw [bt_head c t s hL]; exact h.1
  have hr := bt_range s 0
  have hx : s.extract 1 s.size = r := bytesOf_inj (by rw [bytesOf_drop, h]; rfl)
  unfold tally_Cursor_Byte.f tally_Cursor_ok.f
  simp only [Option.bind_some, beq_self_eq_true, if_true]
  have hne : ¬ s.toList = [] := by
    rw [ByteArray.toList_eq]
    intro h0
    have : s.size = 0 := by rw [← size_len, h0]; rfl
    omega
  rw [if_neg hne, if_pos (by omega), if_pos (by omega), hx, hb, IntWalk.wrap64_in _ (by omega)]
theorem truth_f (s r : ByteArray) (b : Bool) (h : bytesOf s = flagB b :: bytesOf r) : truthF s 0 false = some (b, r, 0, false) := by
  unfold truthF
  rw [byte_f s r _ h]
  cases b <;> rfl
theorem body_f (s r : ByteArray) (c : S50) (v : S45) (hv : IsV c v) (h64 : In64 v) (h0 : v.f0 = false) (hs : s.size ≤ 1000000000) (h : bytesOf s = (if c.f0 = 1 then intB v.f1 else textB v.f2) ++ bytesOf r) : bodyV s 0 false c = some (v, r, 0, false) := by
  unfold bodyV
  rw [if_neg (by decide)]
  by_cases h1 : c.f0 = 1
  · rw [if_pos h1] at h ⊢
    rw [cint_f s r v.f1 h64.1 h64.2 h]
    have e : v.f2 = ⟨#[]⟩ := by
      rcases hv with h | h | h
      · rw [h.1] at h0; cases h0
      · exact h.2.2
      · exact absurd h1 h.2.1
    simp only [Option.bind_some]
    rw [← e, ← h0]
  · rw [if_neg h1] at h ⊢
    have e : v.f1 = 0 ∧ v.f2.size ≤ 64 := by
      rcases hv with h | h | h
      · rw [h.1] at h0; cases h0
      · exact absurd h.2.1 h1
      · exact h.2.2
    rw [ctext_f 9 s r v.f2 e.2 hs h]
    simp only [Option.bind_some]
    rw [← e.1, ← h0]
theorem value_f (s r : ByteArray) (c : S50) (v : S45) (hv : IsV c v) (h64 : In64 v) (hs : s.size ≤ 1000000000) (h : bytesOf s = valB c v ++ bytesOf r) : valueF s 0 false c = some (v, r, 0, false) := by
  unfold valueF
  unfold valB at h
  by_cases h1 : c.f1 = true
  · rw [if_pos h1] at h ⊢
    obtain ⟨z, hz⟩ := bytes_split (s := s) (a := [flagB v.f0]) (z := (if v.f0 = true then [] else if c.f0 = 1 then intB v.f1 else textB v.f2) ++ bytesOf r) (by rw [h, List.append_assoc])
    have hzs : z.size ≤ 1000000000 := by
      have e := congrArg List.length h
      have e2 := congrArg List.length hz
      rw [bytesOf_length] at e e2
      rw [List.append_assoc, List.length_append, ← e2] at e
      omega
    rw [truth_f s z v.f0 (by rw [h, hz, List.append_assoc]; rfl)]
    simp only [Option.bind_some]
    by_cases h0 : v.f0 = true
    · rw [if_pos h0]
      rw [if_pos h0, List.nil_append] at hz
      have e : v.f1 = 0 ∧ v.f2 = ⟨#[]⟩ := by
        rcases hv with h | h | h
        · exact h.2.2
        · rw [h.1] at h0; cases h0
        · rw [h.1] at h0; cases h0
      rw [bytesOf_inj hz, ← e.1, ← e.2, ← h0]
    · rw [if_neg h0]
      rw [if_neg h0] at hz
      exact body_f z r c v hv h64 (by cases hx : v.f0; rfl; exact absurd hx h0) hzs hz
  · rw [if_neg h1] at h ⊢
    have h0 : v.f0 = false := by
      rcases hv with h | h | h
      · exact absurd h.2.1 h1
      · exact h.1
      · exact h.1
    rw [List.nil_append, if_neg (by rw [h0]; decide)] at h
    exact body_f s r c v hv h64 h0 hs h
def RowOk : List S50 → List S45 → Prop
  | c :: cs, v :: vs => IsV c v ∧ In64 v ∧ RowOk cs vs
  | _, [] => True
  | [], _ :: _ => False
def rowB : List S50 → List S45 → List Int
  | c :: cs, v :: vs => valB c v ++ rowB cs vs
  | _, _ => []
theorem rowB_nil (cs : List S50) : rowB cs [] = [] := by cases cs <;> rfl
theorem rowB_isB : ∀ (cs : List S50) (vs : List S45), RowOk cs vs → IsB (rowB cs vs)
  | c :: cs, v :: vs, h => (valB_isB c v h.2.1).app (rowB_isB cs vs h.2.2)
  | [], [], _ => IsB.nil
  | _ :: _, [], _ => IsB.nil
  | [], _ :: _, h => h.elim
theorem rowB_length : ∀ (cs : List S50) (vs : List S45), RowOk cs vs → (rowB cs vs).length ≤ 74 * vs.length
  | c :: cs, v :: vs, h => by
    have h1 := valB_length c v h.1
    have h2 := rowB_length cs vs h.2.2
    rw [rowB, List.length_append, List.length_cons]; omega
  | [], [], _ => by rw [rowB_nil]; simp
  | _ :: _, [], _ => by rw [rowB_nil]; simp
  | [], _ :: _, h => h.elim
theorem rows_f : ∀ (cs : List S50) (vs acc : List S45) (s r : ByteArray), cs.length = vs.length → RowOk cs vs → s.size ≤ 1000000000 → bytesOf s = rowB cs vs ++ bytesOf r → rowsF cs acc s 0 false = some (acc ++ vs, r, 0, false)
  | [], [], acc, s, r, _, _, _, h => by
    rw [rowB_nil, List.nil_append] at h
    rw [bytesOf_inj h, rowsF, List.append_nil]
  | c :: cs, v :: vs, acc, s, r, hl, hok, hs, h => by
    rw [rowB, List.append_assoc] at h
    obtain ⟨z, hz⟩ := bytes_split h
    have hzs : z.size ≤ 1000000000 := by
      have e := congrArg List.length h
      have e2 := congrArg List.length hz
      rw [bytesOf_length] at e e2
      rw [List.length_append, ← e2] at e
      omega
    rw [rowsF, if_pos (by decide), value_f s z c v hok.1 hok.2.1 hs (by rw [h, hz])]
    simp only [Option.bind_some]
    rw [rows_f cs vs (acc ++ [v]) z r (by simpa using hl) hok.2.2 hzs hz, List.append_assoc]
    rfl
  | [], _ :: _, _, _, _, hl, _, _, _ => by simp at hl
  | _ :: _, [], _, _, _, hl, _, _, _ => by simp at hl
def DeedOk (l : List S50) (d : S36) : Prop := rightC l = true ∧ d.f1.length = (if d.f0 = true then 1 else l.length) ∧ RowOk l d.f1
def deedB (l : List S50) (d : S36) : List Int := flagB d.f0 :: rowB l d.f1
def deedT (l : List S50) (d : S36) : ByteArray := strOfNums (deedB l d)
theorem deedB_isB (l : List S50) (d : S36) (h : DeedOk l d) : IsB (deedB l d) := (IsB.one (x := flagB d.f0) (by unfold flagB; split <;> omega)).app (rowB_isB _ _ h.2.2)
theorem right_len {l : List S50} (h : rightC l = true) : 0 < l.length ∧ l.length ≤ 6 := by
  unfold rightC at h; simp at h; omega
theorem deed_len {l : List S50} {d : S36} (h : DeedOk l d) : d.f1.length ≤ 6 := by
  have := right_len h.1
  rw [h.2.1]; split <;> omega
theorem deedT_size (l : List S50) (d : S36) (h : DeedOk l d) : (deedT l d).size ≤ 445 := by
  have h1 := rowB_length l d.f1 h.2.2
  have h2 := deed_len h
  unfold deedT deedB
  rw [strOfNums_size, List.length_cons]; omega
theorem deedT_bytes (l : List S50) (d : S36) (h : DeedOk l d) : bytesOf (deedT l d) = deedB l d := IsB.back (deedB_isB l d h)
theorem rowB_take : ∀ (cs : List S50) (vs : List S45), vs.length ≤ cs.length → rowB cs vs = rowB (cs.take vs.length) vs
  | c :: cs, v :: vs, h => by
    rw [List.length_cons, List.take_succ_cons, rowB, rowB, ← rowB_take cs vs (by simpa using h)]
  | [], [], _ => rfl
  | _ :: _, [], _ => rfl
  | [], _ :: _, h => by simp at h
theorem rowOk_take : ∀ (cs : List S50) (vs : List S45), RowOk cs vs → RowOk (cs.take vs.length) vs
  | c :: cs, v :: vs, h => by
    rw [List.length_cons, List.take_succ_cons]
    exact ⟨h.1, h.2.1, rowOk_take cs vs h.2.2⟩
  | [], [], h => h
  | _ :: _, [], h => by rw [List.length_nil, List.take_zero]; trivial
  | [], _ :: _, h => h.elim
theorem read_f (l : List S50) (d : S36) (h : DeedOk l d) : deeds_Read.f l (deedT l d) = some (d.f0, d.f1, 0) := by
  have hr := right_len h.1
  have hb := deedT_bytes l d h
  have hs := deedT_size l d h
  unfold deeds_Read.f
  rw [if_neg (by rw [h.1]; decide)]
  obtain ⟨z, hz⟩ := bytes_split (s := deedT l d) (a := [flagB d.f0]) (z := rowB l d.f1) hb
  have hzs : z.size ≤ 1000000000 := by
    have e := congrArg List.length hb
    rw [bytesOf_length, deedB, List.length_cons, ← hz, bytesOf_length] at e
    omega
  have hlen : (if d.f0 = true then l.take 1 else l) = l.take d.f1.length := by
    rw [h.2.1]
    split
    · rfl
    · rw [List.take_length]
  rw [truth_f (deedT l d) z d.f0 (by rw [hb, hz]; rfl)]
  simp only [Option.bind_some]
  have hle : d.f1.length ≤ l.length := by rw [h.2.1]; split <;> omega
  rw [hlen, rows_f (l.take d.f1.length) d.f1 [] z ⟨#[]⟩ (by rw [List.length_take]; omega) (rowOk_take _ _ h.2.2) hzs (by rw [hz, rowB_take _ _ hle, show bytesOf ⟨#[]⟩ = [] from rfl, List.append_nil])]
  have hd : tally_Cursor_Done.f ⟨#[]⟩ 0 = some (0, ⟨#[]⟩, 0) := by kernel_rfl
  simp only [Option.bind_some, List.nil_append]
  rw [if_neg (by decide), hd]
  rfl
end Go.Proofs.YtojcbknclfamhaaDoor.A
