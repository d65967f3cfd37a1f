/- Which asks, and which queries, hold for a row: the program's and the document's answers are one; no program in sight. -/
import Derived.Test.YtglcajijmkianaaDoorAx0
import Derived.Test.YtglcajijmkianaaDoorAx3
import Derived.Test.YtglcajijmkianaaDoorAx5
import Derived.Test.YtglcajijmkianaaDoorAx6
import Derived.Test.YtglcajijmkianaaDoorHHolds
import Derived.Test.YtglcajijmkianaaDoorHRd
namespace Go.Proofs.YtglcajijmkianaaDoor.A
open Go.RowKit Go.Proofs.YtglcajijmkianaaDoorW.PrintWords Go.Proofs.YtglcajijmkianaaDoorW.PrintLast Go.Proofs.YtglcajijmkianaaDoorW.PrintMore
set_option linter.unusedVariables false
set_option linter.unusedSimpArgs false

/-- The model's '<' on strings is the order of the bytes' lists. -/
theorem bytesLess_eq : ∀ (x y : List UInt8), Op.bytesLess x y = decide (x < y)
  | [], [] => by simp [Op.bytesLess]
  | _ :: _, [] => by simp [Op.bytesLess]
  | [], _ :: _ => by simp [Op.bytesLess]
  | a :: x, b :: y => by
    rw [Op.bytesLess, bytesLess_eq x y, Bool.eq_iff_iff]
    simp [List.cons_lt_cons_iff]
def cmpS (a b : ByteArray) : Int := if Op.bytesLess a.toList b.toList = true then -1 else if a.toList = b.toList then 0 else 1
def cmpV (a b : S23) : Int := if a.f0 = true then (if b.f0 = true then 0 else -1) else if b.f0 = true then 1 else if a.f1 < b.f1 then -1 else if b.f1 < a.f1 then 1 else cmpS a.f2 b.f2
theorem cmpS_range (a b : ByteArray) : cmpS a b = -1 ∨ cmpS a b = 0 ∨ cmpS a b = 1 := by
  unfold cmpS; split <;> (try split) <;> simp
theorem or_two (k : Nat) (a b : Int) : cmp_Or_int.f (k + 3) [a, b] = some (if a = 0 then b else a) := by
  have w1 : wrap64 ((0 : Int) + 1) = 1 := by unfold wrap64; omega
  have w2 : wrap64 ((1 : Int) + 1) = 2 := by unfold wrap64; omega
  have r0 : rd [a, b] 0 = a := rfl
  have r1 : rd [a, b] 1 = b := rfl
  simp only [cmp_Or_int.f, cmp_Or_int.l0, List.length_cons, List.length_nil, w1, w2, r0, r1]
  by_cases h : a = 0
  · by_cases h2 : b = 0 <;> simp [h, h2]
  · simp [h]
theorem compare_ev (a b : S23) : Ev (fun k => kinds_Compare.f k a.f0 a.f1 a.f2 b.f0 b.f1 b.f2) (cmpV a b) := by
  refine ⟨4, fun k hk => ?_⟩
  obtain ⟨k, rfl⟩ : ∃ m, k = m + 3 + 1 := ⟨k - 4, by omega⟩
  obtain ⟨a0, a1, a2⟩ := a
  obtain ⟨b0, b1, b2⟩ := b
  unfold cmpV kinds_Compare.f
  cases a0 <;> cases b0 <;> simp only [kinds_Compare.j0, if_true, if_false, Bool.false_eq_true]
  simp only [cmp_Compare_int64.f, cmp_isNaN_int64.f, cmp_Compare_string.f, Option.bind_some, bne_self_eq_false, Bool.false_eq_true, if_false]
  by_cases h1 : a1 < b1
  · rw [if_pos h1]
    simp only [Option.bind_some, or_two, if_pos h1]
    simp
  · rw [if_neg h1, if_neg h1]
    by_cases h2 : a1 > b1
    · rw [if_pos h2, if_pos h2]
      simp only [Option.bind_some, or_two]
      simp
    · rw [if_neg h2, if_neg h2]
      simp only [Option.bind_some, or_two, if_true]
      rfl

theorem drop_byte (s : ByteArray) (i : Nat) (h : i < s.size) : s.toList.drop i = s[i] :: s.toList.drop (i + 1) := by
  rw [ByteArray.toList_eq]
  have : i < s.data.toList.length := by simpa using h
  rw [List.drop_eq_getElem_cons this]
  rfl
theorem bt_lt (s : ByteArray) (i : Nat) (h : i < s.size) : bt s (i : Int) = (s[i].toNat : Int) := by simp [bt, h]
theorem drop_end (s : ByteArray) (i : Nat) (h : s.size ≤ i) : s.toList.drop i = [] := by
  rw [ByteArray.toList_eq]
  exact List.drop_eq_nil_of_le (by simpa using h)
theorem ahead_at (a b : ByteArray) (hs : a.size ≤ maxLen) : ∀ (d i k : Nat), a.size - i ≤ d → i ≤ a.size → i ≤ b.size → 2 * d + 2 ≤ k → tithebarnref02_ahead.l0 k a b (i : Int) = some (Op.bytesLess (a.toList.drop i) (b.toList.drop i)) := by
  intro d
  induction d with
  | zero =>
    intro i k hd ha hb hk
    obtain ⟨k, rfl⟩ : ∃ m, k = m + 2 := ⟨k - 2, by omega⟩
    simp only [tithebarnref02_ahead.l0]
    rw [if_neg (by omega)]
    simp only [tithebarnref02_ahead.j1, Bool.false_eq_true, if_false]
    rw [drop_end a i (by omega), bytesLess_eq]
    by_cases hi : i < b.size
    · rw [drop_byte b i hi]
      simp
      omega
    · rw [drop_end b i (by omega)]
      simp
      omega
  | succ d ih =>
    intro i k hd ha hb hk
    obtain ⟨k, rfl⟩ : ∃ m, k = m + 2 := ⟨k - 2, by omega⟩
    simp only [tithebarnref02_ahead.l0]
    by_cases hi : i < a.size
    · rw [if_pos (by omega)]
      by_cases hj : i < b.size
      · rw [show decide ((i : Int) < (b.size : Int)) = true from decide_eq_true (by omega)]
        simp only [tithebarnref02_ahead.j1, if_true]
        rw [if_pos (by omega), if_pos (by omega), if_pos (by omega), bt_lt a i hi, bt_lt b i hj, drop_byte a i hi, drop_byte b i hj, bytesLess_eq]
        by_cases he : a[i] = b[i]
        · rw [if_pos (by rw [he])]
          have hw : wrap64 ((i : Int) + 1) = ((i + 1 : Nat) : Int) := by unfold wrap64; unfold maxLen at hs; omega
          rw [hw, ih (i + 1) k (by omega) (by omega) (by omega) (by omega), bytesLess_eq]
          congr 1
          rw [he]
          simp
        · rw [if_neg (by intro h; exact he (UInt8.toNat_inj.mp (by omega)))]
          congr 1
          rw [decide_eq_decide, List.cons_lt_cons_iff]
          constructor
          · intro h; exact .inl (UInt8.lt_iff_toNat_lt.mpr (by omega))
          · rintro (h | ⟨h, _⟩)
            · have := UInt8.lt_iff_toNat_lt.mp h; omega
            · exact absurd h he
      · rw [show decide ((i : Int) < (b.size : Int)) = false from decide_eq_false (by omega)]
        simp only [tithebarnref02_ahead.j1, Bool.false_eq_true, if_false]
        rw [drop_end b i (by omega), bytesLess_eq, drop_byte a i hi]
        simp
        omega
    · rw [if_neg (by omega)]
      simp only [tithebarnref02_ahead.j1, Bool.false_eq_true, if_false]
      rw [drop_end a i (by omega), bytesLess_eq]
      by_cases hi : i < b.size
      · rw [drop_byte b i hi]
        simp
        omega
      · rw [drop_end b i (by omega)]
        simp
        omega
theorem ahead_ev (a b : ByteArray) (hs : a.size ≤ maxLen) : Ev (fun k => tithebarnref02_ahead.f k a b) (Op.bytesLess a.toList b.toList) :=
  ⟨2 * a.size + 2, fun k hk => by
    have := ahead_at a b hs a.size 0 k (by omega) (by omega) (by omega) hk
    simpa [tithebarnref02_ahead.f] using this⟩
/-- Is a value ahead of another one, by the document? -/
def aheadV (a b : S23) : Bool := if a.f0 = true ∨ b.f0 = true then (a.f0 && !b.f0) else if a.f1 = b.f1 then Op.bytesLess a.f2.toList b.f2.toList else decide (a.f1 < b.f1)
theorem Ahead_ev (a b : S23) (ha : Gd23 a) : Ev (fun k => tithebarnref02_Ahead.f k a.f0 a.f1 a.f2 b.f0 b.f1 b.f2) (aheadV a b) := by
  obtain ⟨K, hK⟩ := ahead_ev a.f2 b.f2 ha.2
  refine ⟨K + 1, fun k hk => ?_⟩
  obtain ⟨k, rfl⟩ : ∃ m, k = m + 1 := ⟨k - 1, by omega⟩
  have h := hK k (by omega)
  obtain ⟨a0, a1, a2⟩ := a
  obtain ⟨b0, b1, b2⟩ := b
  simp only at h
  unfold aheadV tithebarnref02_Ahead.f
  cases a0 <;> cases b0 <;> simp [tithebarnref02_Ahead.j0, h]
  by_cases e : a1 = b1 <;> simp [e]
theorem bytesLess_irrefl (l : List UInt8) : Op.bytesLess l l = false := by rw [bytesLess_eq]; simp [List.lt_irrefl]
theorem bytesLess_asymm {a b : List UInt8} (h : Op.bytesLess a b = true) : Op.bytesLess b a = false := by
  rw [bytesLess_eq] at h ⊢
  simpa using List.le_of_lt (by simpa using h)
theorem aheadV_cmp (a b : S23) : aheadV a b = decide (cmpV a b < 0) := by
  obtain ⟨a0, a1, a2⟩ := a
  obtain ⟨b0, b1, b2⟩ := b
  unfold aheadV cmpV cmpS
  cases a0 <;> cases b0 <;> simp
  by_cases e : a1 = b1
  · subst e
    simp
    cases h : Op.bytesLess a2.toList b2.toList
    · simp
      split <;> simp
    · simp
  · rw [if_neg e]
    by_cases h : a1 < b1
    · simp [h]
    · have h2 : b1 < a1 := by omega
      simp [h, h2]
theorem bytes_trichotomy (a b : List UInt8) : Op.bytesLess a b = true ∨ a = b ∨ Op.bytesLess b a = true := by
  rw [bytesLess_eq, bytesLess_eq]
  simp only [decide_eq_true_eq]
  rcases Classical.em (a < b) with h | h
  · exact .inl h
  · rcases Classical.em (b < a) with h2 | h2
    · exact .inr (.inr h2)
    · exact .inr (.inl (List.le_antisymm (by simpa using h2) (by simpa using h)))
theorem aheadV_swap (a b : S23) : aheadV b a = decide (0 < cmpV a b) := by
  obtain ⟨a0, a1, a2⟩ := a
  obtain ⟨b0, b1, b2⟩ := b
  unfold aheadV cmpV cmpS
  cases a0 <;> cases b0 <;> simp
  by_cases e : a1 = b1
  · subst e
    simp
    cases h : Op.bytesLess a2.toList b2.toList
    · simp
      by_cases e2 : a2.toList = b2.toList
      · rw [if_pos e2, e2, bytesLess_irrefl]; simp
      · rw [if_neg e2]
        rcases bytes_trichotomy a2.toList b2.toList with h1 | h1 | h1
        · rw [h1] at h; cases h
        · exact absurd h1 e2
        · simp [h1]
    · simp [bytesLess_asymm h]
  · rw [if_neg (fun h => e h.symm)]
    by_cases h : a1 < b1
    · simp [h]; omega
    · have h2 : b1 < a1 := by omega
      simp [h, h2]
theorem cmpV_range (a b : S23) : cmpV a b = -1 ∨ cmpV a b = 0 ∨ cmpV a b = 1 := by
  unfold cmpV
  have := cmpS_range a.f2 b.f2
  repeat' split
  all_goals first | exact this | simp
theorem Compare_ev (a b : S23) (ha : Gd23 a) (hb : Gd23 b) : Ev (fun k => tithebarnref02_Compare.f k a.f0 a.f1 a.f2 b.f0 b.f1 b.f2) (cmpV a b) := by
  obtain ⟨K, hK⟩ := Ahead_ev a b ha
  obtain ⟨L, hL⟩ := Ahead_ev b a hb
  refine ⟨K + L, fun k hk => ?_⟩
  have h1 := hK k (by omega)
  have h2 := hL k (by omega)
  simp only at h1 h2
  simp only [tithebarnref02_Compare.f, h1, h2, Option.bind_some, aheadV_cmp a b, aheadV_swap a b]
  rcases cmpV_range a b with h | h | h <;> rw [h] <;> simp

/-- Does a value hold for an ask? -/
def zhV (a : S25) (v : S23) : Bool :=
  if a.f0 = 0 then true else if a.f0 = 4 then v.f0 else if a.f0 = 5 then !v.f0 else if v.f0 = true ∨ a.f2.f0 = true then false
  else if a.f0 = 1 then cmpV v a.f2 == 0 else if a.f0 = 2 then decide (cmpV v a.f2 < 0) else if a.f0 = 3 then decide (0 ≤ cmpV v a.f2) else false
theorem zone_Holds_ev (a : S25) (v : S23) : Ev (fun k => zone_Holds.f k a.f0 a.f1 a.f2.f0 a.f2.f1 a.f2.f2 v.f0 v.f1 v.f2) (zhV a v) := by
  obtain ⟨K, hK⟩ := compare_ev v a.f2
  refine ⟨K + 1, fun k hk => ?_⟩
  obtain ⟨k, rfl⟩ : ∃ m, k = m + 1 := ⟨k - 1, by omega⟩
  have h := hK k (by omega)
  simp only at h
  simp only [zone_Holds.f, zone_Holds.j0, zhV]
  by_cases c0 : a.f0 = 0
  · simp [c0]
  by_cases c4 : a.f0 = 4
  · simp [c4]
  by_cases c5 : a.f0 = 5
  · simp [c5]
  cases hv : v.f0 <;> cases hn : a.f2.f0 <;> simp [c0, c4, c5]
  rw [hv, hn] at h
  rw [h]
  by_cases c1 : a.f0 = 1
  · simp [c1]
  by_cases c2 : a.f0 = 2
  · simp [c2]
  by_cases c3 : a.f0 = 3
  · simp [c3]
  simp [c1, c2, c3]
theorem refHolds_ev (a : S25) (v : S23) (hv : Gd23 v) (ha : Gd23 a.f2) : Ev (fun k => tithebarnref11_Holds.f k a.f0 a.f1 a.f2.f0 a.f2.f1 a.f2.f2 v.f0 v.f1 v.f2) (zhV a v) := by
  obtain ⟨K, hK⟩ := Compare_ev v a.f2 hv ha
  obtain ⟨L, hL⟩ := Ahead_ev v a.f2 hv
  refine ⟨K + L + 1, fun k hk => ?_⟩
  obtain ⟨k, rfl⟩ : ∃ m, k = m + 1 := ⟨k - 1, by omega⟩
  have h := hK k (by omega)
  have h2 := hL k (by omega)
  simp only at h h2
  simp only [tithebarnref11_Holds.f, tithebarnref11_Holds.j0, zhV]
  by_cases c0 : a.f0 = 0
  · simp [c0]
  by_cases c4 : a.f0 = 4
  · simp [c4]
  by_cases c5 : a.f0 = 5
  · simp [c5]
  rw [h, h2, aheadV_cmp]
  have e3 : (!decide (cmpV v a.f2 < 0)) = decide (0 ≤ cmpV v a.f2) := by
    by_cases h : cmpV v a.f2 < 0
    · rw [decide_eq_true h, decide_eq_false (by omega)]; rfl
    · rw [decide_eq_false h, decide_eq_true (by omega)]; rfl
  cases hv : v.f0 <;> cases hn : a.f2.f0 <;> simp [c0, c4, c5]
  by_cases c1 : a.f0 = 1
  · simp [c1]
  by_cases c2 : a.f0 = 2
  · simp [c2]
  by_cases c3 : a.f0 = 3
  · simp [c3, e3]
  simp [c1, c2, c3]
end Go.Proofs.YtglcajijmkianaaDoor.A
