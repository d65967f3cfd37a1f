/- What may and what must hold by zones: the program's and the document's answers are one; no program in sight. -/
import Derived.Test.YtglcajijmkianaaDoorKAx0
import Derived.Test.YtglcajijmkianaaDoorKAx11
import Derived.Test.YtglcajijmkianaaDoorKAx13
import Derived.Test.YtglcajijmkianaaDoorKAx15
import Derived.Test.YtglcajijmkianaaDoorKAx9
import Derived.Test.YtglcajijmkianaaDoorKHPure2
import Derived.Test.YtglcajijmkianaaDoorKHKnown
import Derived.Test.YtglcajijmkianaaDoorKHRMay2
namespace Go.Proofs.YtglcajijmkianaaDoor.A
open Go.RowKit Go.Proofs.YtglcajijmkianaaDoorW.PrintWords Go.Proofs.YtglcajijmkianaaDoorW.PrintLast Go.Proofs.YtglcajijmkianaaDoorW.PrintMore
set_option linter.unusedVariables false
set_option linter.unusedSimpArgs false
def loV (z : S72) : S23 := ⟨false, z.f2.f1, z.f2.f2⟩
def hiV (z : S72) : S23 := ⟨false, z.f3.f1, z.f3.f2⟩
def zmV (all : Bool) (a : S25) (z : S72) : Bool :=
  if all = true then (if a.f0 = 0 then true else if a.f0 = 4 then !z.f1 else if a.f0 = 5 then !z.f0 else if z.f0 = true ∨ z.f1 = false ∨ a.f2.f0 = true then false
    else if a.f0 = 1 then (cmpV (loV z) a.f2 == 0 && cmpV (hiV z) a.f2 == 0) else if a.f0 = 2 then decide (cmpV (hiV z) a.f2 < 0) else if a.f0 = 3 then decide (0 ≤ cmpV (loV z) a.f2) else false)
  else (if a.f0 = 0 then (z.f0 || z.f1) else if a.f0 = 4 then z.f0 else if a.f0 = 5 then z.f1 else if z.f1 = false ∨ a.f2.f0 = true then false
    else if a.f0 = 1 then (decide (cmpV (loV z) a.f2 ≤ 0) && decide (0 ≤ cmpV (hiV z) a.f2)) else if a.f0 = 2 then decide (cmpV (loV z) a.f2 < 0) else if a.f0 = 3 then decide (0 ≤ cmpV (hiV z) a.f2) else false)
theorem leaf_ev (all : Bool) (a : S25) (z : S72) : Ev (fun k => leafO k all a z) (zmV all a z) := by
  obtain ⟨K, hK⟩ := compare_ev (loV z) a.f2
  obtain ⟨L, hL⟩ := compare_ev (hiV z) a.f2
  refine ⟨K + L + 1, fun k hk => ?_⟩
  obtain ⟨k, rfl⟩ : ∃ m, k = m + 1 := ⟨k - 1, by omega⟩
  have h := hK k (by omega)
  have h2 := hL k (by omega)
  simp only [loV, hiV] at h h2
  cases all with
  | true =>
    simp only [leafO, zmV, if_true, query_sure.f, query_sure.j0, h, h2, loV, hiV]
    by_cases c0 : a.f0 = 0
    · simp [c0] <;> first | rfl | exact decide_eq_decide.mpr Iff.rfl
    by_cases c4 : a.f0 = 4
    · simp [c4] <;> first | rfl | exact decide_eq_decide.mpr Iff.rfl
    by_cases c5 : a.f0 = 5
    · simp [c5] <;> first | rfl | exact decide_eq_decide.mpr Iff.rfl
    cases hz0 : z.f0 <;> cases hz1 : z.f1 <;> cases hn : a.f2.f0 <;> simp [c0, c4, c5]
    by_cases c1 : a.f0 = 1
    · simp [c1]
      by_cases c9 : cmpV { f0 := false, f1 := z.f2.f1, f2 := z.f2.f2 } a.f2 = 0 <;> simp [c9] <;> first | rfl | exact decide_eq_decide.mpr Iff.rfl
    by_cases c2 : a.f0 = 2
    · simp [c2] <;> first | rfl | exact decide_eq_decide.mpr Iff.rfl
    by_cases c3 : a.f0 = 3
    · simp [c3] <;> first | rfl | exact decide_eq_decide.mpr Iff.rfl
    simp [c1, c2, c3]
  | false =>
    simp only [leafO, zmV, Bool.false_eq_true, if_false, zone_May.f, zone_May.j0, zone_solid.f, Option.bind_some, h, h2, loV, hiV]
    by_cases c0 : a.f0 = 0
    · cases hz0 : z.f0 <;> simp [c0]
    by_cases c4 : a.f0 = 4
    · simp [c4] <;> first | rfl | exact decide_eq_decide.mpr Iff.rfl
    by_cases c5 : a.f0 = 5
    · simp [c5] <;> first | rfl | exact decide_eq_decide.mpr Iff.rfl
    cases hz1 : z.f1 <;> cases hn : a.f2.f0 <;> simp [c0, c4, c5]
    by_cases c1 : a.f0 = 1
    · simp [c1]
      by_cases c9 : cmpV { f0 := false, f1 := z.f2.f1, f2 := z.f2.f2 } a.f2 ≤ 0 <;> simp [c9] <;> first | rfl | exact decide_eq_decide.mpr Iff.rfl
    by_cases c2 : a.f0 = 2
    · simp [c2] <;> first | rfl | exact decide_eq_decide.mpr Iff.rfl
    by_cases c3 : a.f0 = 3
    · simp [c3] <;> first | rfl | exact decide_eq_decide.mpr Iff.rfl
    simp [c1, c2, c3]
def Gd72 (z : S72) : Prop := Gd23 z.f2 ∧ Gd23 z.f3
theorem not_lt (n : Int) : (!decide (n < 0)) = decide (0 ≤ n) := by
  by_cases h : n < 0
  · rw [decide_eq_true h, decide_eq_false (by omega)]; rfl
  · rw [decide_eq_false h, decide_eq_true (by omega)]; rfl
theorem not_gt (n : Int) : (!decide (0 < n)) = decide (n ≤ 0) := by
  by_cases h : 0 < n
  · rw [decide_eq_true h, decide_eq_false (by omega)]; rfl
  · rw [decide_eq_false h, decide_eq_true (by omega)]; rfl
theorem rmay_ev (a : S25) (z : S72) (ha : Gd23 a.f2) (hz : Gd72 z) : Ev (fun k => tithebarnref11_May.f k a.f0 a.f1 a.f2.f0 a.f2.f1 a.f2.f2 z.f0 z.f1 z.f2.f0 z.f2.f1 z.f2.f2 z.f3.f0 z.f3.f1 z.f3.f2) (zmV false a z) := by
  obtain ⟨K1, h1⟩ := Ahead_ev a.f2 (loV z) ha
  obtain ⟨K2, h2⟩ := Ahead_ev (hiV z) a.f2 ⟨hz.2.1, hz.2.2⟩
  obtain ⟨K3, h3⟩ := Ahead_ev (loV z) a.f2 ⟨hz.1.1, hz.1.2⟩
  refine ⟨K1 + K2 + K3, fun k hk => ?_⟩
  have e1 := h1 k (by omega)
  have e2 := h2 k (by omega)
  have e3 := h3 k (by omega)
  rw [aheadV_swap (loV z) a.f2] at e1
  rw [aheadV_cmp] at e2 e3
  simp only [loV, hiV] at e1 e2 e3
  simp only [tithebarnref11_May.f, e1, e2, e3, Option.bind_some, zmV, rmayV, Bool.false_eq_true, if_false, loV, hiV, not_lt, not_gt]
  congr 1
  by_cases c0 : a.f0 = 0
  · simp [c0] <;> first | rfl | exact decide_eq_decide.mpr Iff.rfl
  by_cases c4 : a.f0 = 4
  · simp [c4] <;> first | rfl | exact decide_eq_decide.mpr Iff.rfl
  by_cases c5 : a.f0 = 5
  · simp [c5] <;> first | rfl | exact decide_eq_decide.mpr Iff.rfl
  cases hz1 : z.f1 <;> cases hn : a.f2.f0 <;> simp [c0, c4, c5]
  by_cases u : 0 < cmpV { f0 := false, f1 := z.f2.f1, f2 := z.f2.f2 } a.f2 <;> by_cases v : cmpV { f0 := false, f1 := z.f3.f1, f2 := z.f3.f2 } a.f2 < 0
  · have u2 : ¬ cmpV { f0 := false, f1 := z.f2.f1, f2 := z.f2.f2 } a.f2 ≤ 0 := by omega
    have v2 : ¬ 0 ≤ cmpV { f0 := false, f1 := z.f3.f1, f2 := z.f3.f2 } a.f2 := by omega
    simp [u, v, u2, v2]
  · have u2 : ¬ cmpV { f0 := false, f1 := z.f2.f1, f2 := z.f2.f2 } a.f2 ≤ 0 := by omega
    have v2 : 0 ≤ cmpV { f0 := false, f1 := z.f3.f1, f2 := z.f3.f2 } a.f2 := by omega
    simp [u, v, u2, v2]
  · have u2 : cmpV { f0 := false, f1 := z.f2.f1, f2 := z.f2.f2 } a.f2 ≤ 0 := by omega
    have v2 : ¬ 0 ≤ cmpV { f0 := false, f1 := z.f3.f1, f2 := z.f3.f2 } a.f2 := by omega
    simp [u, v, u2, v2]
  · have u2 : cmpV { f0 := false, f1 := z.f2.f1, f2 := z.f2.f2 } a.f2 ≤ 0 := by omega
    have v2 : 0 ≤ cmpV { f0 := false, f1 := z.f3.f1, f2 := z.f3.f2 } a.f2 := by omega
    simp [u, v, u2, v2]
theorem rmust_ev (a : S25) (z : S72) (ha : Gd23 a.f2) (hz : Gd72 z) : Ev (fun k => tithebarnref23_must.f k a.f0 a.f1 a.f2.f0 a.f2.f1 a.f2.f2 z.f0 z.f1 z.f2.f0 z.f2.f1 z.f2.f2 z.f3.f0 z.f3.f1 z.f3.f2) (zmV true a z) := by
  obtain ⟨K1, h1⟩ := Compare_ev (loV z) a.f2 ⟨hz.1.1, hz.1.2⟩ ha
  obtain ⟨K2, h2⟩ := Compare_ev (hiV z) a.f2 ⟨hz.2.1, hz.2.2⟩ ha
  refine ⟨K1 + K2 + 1, fun k hk => ?_⟩
  obtain ⟨k, rfl⟩ : ∃ m, k = m + 1 := ⟨k - 1, by omega⟩
  have e1 := h1 k (by omega)
  have e2 := h2 k (by omega)
  simp only [loV, hiV] at e1 e2
  simp only [tithebarnref23_must.f, tithebarnref23_must.j0, tithebarnref23_bare.f, Option.bind_some, e1, e2, zmV, if_true, loV, hiV]
  by_cases c0 : a.f0 = 0
  · simp [c0] <;> first | rfl | exact decide_eq_decide.mpr Iff.rfl
  by_cases c4 : a.f0 = 4
  · simp [c4] <;> first | rfl | exact decide_eq_decide.mpr Iff.rfl
  by_cases c5 : a.f0 = 5
  · simp [c5] <;> first | rfl | exact decide_eq_decide.mpr Iff.rfl
  cases hz0 : z.f0 <;> cases hz1 : z.f1 <;> cases hn : a.f2.f0 <;> simp [c0, c4, c5]
  by_cases c1 : a.f0 = 1
  · simp [c1]
    by_cases c9 : cmpV { f0 := false, f1 := z.f2.f1, f2 := z.f2.f2 } a.f2 = 0 <;> simp [c9] <;> first | rfl | exact decide_eq_decide.mpr Iff.rfl
  by_cases c2 : a.f0 = 2
  · simp [c2] <;> first | rfl | exact decide_eq_decide.mpr Iff.rfl
  by_cases c3 : a.f0 = 3
  · simp [c3] <;> first | rfl | exact decide_eq_decide.mpr Iff.rfl
  simp [c1, c2, c3]
def kV : Nat → Bool → List S72 → S28 → Bool
  | 0, _, _, _ => false
  | n + 1, all, l, q => if q.f0 = 1 then (if 0 ≤ q.f1.f1 ∧ q.f1.f1 < (l.length : Int) then zmV all q.f1 (rd_T72 l q.f1.f1) else false)
    else if q.f0 = 2 then q.f2.all (kV n all l) else if q.f0 = 3 then q.f2.any (kV n all l) else if q.f0 = 4 then (match q.f2 with | [] => true | k :: _ => !kV n (!all) l k) else false
theorem known_ev {l : List S72} : ∀ (n : Nat) (all : Bool) (q : S28), Gd28 n q → Ev (fun k => knownO k all l q) (kV n all l q)
  | 0, _, _, h => h.elim
  | n + 1, all, q, h => by
    obtain ⟨_, _, _, hk⟩ := h
    refine Ev.step (f := fun k => if q.f0 = 1 then (if 0 ≤ q.f1.f1 then (if q.f1.f1 < (l.length : Int) then leafO k all q.f1 (rd_T72 l q.f1.f1) else some false) else some false)
      else if q.f0 = 2 then everyO (knownO k all l) q.f2 else if q.f0 = 3 then anyO (knownO k all l) q.f2 else if q.f0 = 4 then (match q.f2 with | [] => some true | x :: _ => (knownO k (!all) l x).bind fun b => some (!b)) else some false) (fun k => known_succ k _ _ _) ?_
    unfold kV
    by_cases c1 : q.f0 = 1
    · simp only [if_pos c1]
      by_cases c2 : 0 ≤ q.f1.f1
      · by_cases c3 : q.f1.f1 < (l.length : Int)
        · simp only [if_pos c2, if_pos c3, if_pos (And.intro c2 c3)]
          exact leaf_ev all q.f1 _
        · simp only [if_pos c2, if_neg c3, if_neg (fun h : 0 ≤ q.f1.f1 ∧ q.f1.f1 < (l.length : Int) => c3 h.2)]
          exact Ev.now false
      · simp only [if_neg c2, if_neg (fun h : 0 ≤ q.f1.f1 ∧ q.f1.f1 < (l.length : Int) => c2 h.1)]
        exact Ev.now false
    · simp only [if_neg c1]
      by_cases c2 : q.f0 = 2
      · simp only [if_pos c2]
        exact every_ev q.f2 (fun x hx => known_ev n all x (hk x hx))
      · simp only [if_neg c2]
        by_cases c3 : q.f0 = 3
        · simp only [if_pos c3]
          exact any_ev q.f2 (fun x hx => known_ev n all x (hk x hx))
        · simp only [if_neg c3]
          by_cases c4 : q.f0 = 4
          · simp only [if_pos c4]
            cases hq : q.f2 with
            | nil => exact Ev.now true
            | cons x xs => exact Ev.bind (f := fun _ b => some (!b)) (known_ev n (!all) x (hk x (by rw [hq]; exact List.mem_cons_self ..))) (Ev.now _)
          · simp only [if_neg c4]
            exact Ev.now false
def rknownAt (k : Nat) (all : Bool) (l1 : List S72) (q : S28) : Option Bool := tithebarnref23_Known.f k q.f0 q.f1.f0 q.f1.f1 q.f1.f2.f0 q.f1.f2.f1 q.f1.f2.f2 q.f2 l1 all
theorem kl_ev {l : List S72} {all : Bool} {v : S28 → Bool} (and : Bool) (a0 a1 a2 : Int) (ha : (a0 == 2) = and) (ha3 : (a0 == 3) = !and) (a3 : Bool) (a4 : Int) (a5 : ByteArray) (xs : List S28) (hl : xs.length ≤ maxLen) (hv : ∀ x ∈ xs, Ev (fun k => rknownAt k all l x) (v x)) : ∀ d i, xs.length - i ≤ d → i ≤ xs.length →
    Ev (fun k => tithebarnref23_Known.l0 k l all (i : Int) a0 a1 a2 a3 a4 a5 xs) (if and = true then (xs.drop i).all v else (xs.drop i).any v) := by
  intro d
  induction d with
  | zero =>
    intro i hd hi
    refine Ev.step (f := fun _ => some and) (fun k => by simp only [tithebarnref23_Known.l0]; rw [if_neg (by omega), ha]) ?_
    rw [List.drop_eq_nil_of_le (by omega)]
    cases and <;> exact Ev.now _
  | succ d ih =>
    intro i hd hi
    by_cases h : i < xs.length
    · refine Ev.step (f := fun k => (rknownAt k all l xs[i]).bind fun t => if (t != and) = true then some (!and) else tithebarnref23_Known.l0 k l all ((i + 1 : Nat) : Int) a0 a1 a2 a3 a4 a5 xs) (fun k => by
        simp only [tithebarnref23_Known.l0]
        rw [if_pos (by omega), if_pos (by omega), rd28_at h, wrap_succ hl h, ha, ha3]; rfl) ?_
      refine Ev.bind (f := fun k t => if (t != and) = true then some (!and) else tithebarnref23_Known.l0 k l all ((i + 1 : Nat) : Int) a0 a1 a2 a3 a4 a5 xs) (hv _ (List.getElem_mem h)) ?_
      have hn := ih (i + 1) (by omega) (by omega)
      rw [List.drop_eq_getElem_cons h, List.all_cons, List.any_cons]
      cases and <;> cases v xs[i]
      · exact hn
      · exact Ev.now true
      · exact Ev.now false
      · exact hn
    · refine Ev.step (f := fun _ => some and) (fun k => by simp only [tithebarnref23_Known.l0]; rw [if_neg (by omega), ha]) ?_
      rw [List.drop_eq_nil_of_le (by omega)]
      cases and <;> exact Ev.now _
theorem rd72_mem {l : List S72} {i : Int} (h : 0 ≤ i ∧ i < (l.length : Int)) : rd_T72 l i ∈ l := by
  unfold rd_T72
  rw [List.getD_eq_getElem?_getD, List.getElem?_eq_getElem (by omega)]
  exact List.getElem_mem _
theorem rknown_ev {l : List S72} (hgl : ∀ z ∈ l, Gd72 z) : ∀ (n : Nat) (all : Bool) (q : S28), Gd28 n q → Ev (fun k => rknownAt k all l q) (kV n all l q)
  | 0, _, _, h => h.elim
  | n + 1, all, q, h => by
    obtain ⟨_, hga, hlen, hk⟩ := h
    refine Ev.step (f := fun k => if q.f0 = 1 then (if q.f1.f1 < 0 then (tithebarnref23_Known.j0 k l all true q.f0 q.f1.f0 q.f1.f1 q.f1.f2.f0 q.f1.f2.f1 q.f1.f2.f2 q.f2) else (tithebarnref23_Known.j0 k l all (decide (q.f1.f1 ≥ (l.length : Int))) q.f0 q.f1.f0 q.f1.f1 q.f1.f2.f0 q.f1.f2.f1 q.f1.f2.f2 q.f2))
      else (if q.f0 = 2 then (tithebarnref23_Known.j1 k l all q.f0 (q.f0 == 2) q.f0 q.f1.f0 q.f1.f1 q.f1.f2.f0 q.f1.f2.f1 q.f1.f2.f2 q.f2) else (tithebarnref23_Known.j1 k l all q.f0 (q.f0 == 3) q.f0 q.f1.f0 q.f1.f1 q.f1.f2.f0 q.f1.f2.f1 q.f1.f2.f2 q.f2))) (fun k => by simp only [rknownAt, tithebarnref23_Known.f]) ?_
    unfold kV
    by_cases c1 : q.f0 = 1
    · simp only [if_pos c1]
      by_cases c2 : 0 ≤ q.f1.f1
      · by_cases c3 : q.f1.f1 < (l.length : Int)
        · simp only [if_neg (show ¬ q.f1.f1 < 0 by omega), if_pos (And.intro c2 c3), decide_eq_false (show ¬ q.f1.f1 ≥ (l.length : Int) by omega)]
          refine Ev.step (f := fun k => if all = true then (tithebarnref23_must.f k q.f1.f0 q.f1.f1 q.f1.f2.f0 q.f1.f2.f1 q.f1.f2.f2 ((rd_T72 l q.f1.f1).f0) ((rd_T72 l q.f1.f1).f1) ((rd_T72 l q.f1.f1).f2.f0) ((rd_T72 l q.f1.f1).f2.f1) ((rd_T72 l q.f1.f1).f2.f2) ((rd_T72 l q.f1.f1).f3.f0) ((rd_T72 l q.f1.f1).f3.f1) ((rd_T72 l q.f1.f1).f3.f2)).bind fun t => some t
            else (tithebarnref11_May.f k q.f1.f0 q.f1.f1 q.f1.f2.f0 q.f1.f2.f1 q.f1.f2.f2 ((rd_T72 l q.f1.f1).f0) ((rd_T72 l q.f1.f1).f1) ((rd_T72 l q.f1.f1).f2.f0) ((rd_T72 l q.f1.f1).f2.f1) ((rd_T72 l q.f1.f1).f2.f2) ((rd_T72 l q.f1.f1).f3.f0) ((rd_T72 l q.f1.f1).f3.f1) ((rd_T72 l q.f1.f1).f3.f2)).bind fun t => some t) (fun k => by
              simp only [tithebarnref23_Known.j0, Bool.false_eq_true, if_false, if_pos c2, if_pos c3]) ?_
          have hz := hgl _ (rd72_mem ⟨c2, c3⟩)
          cases all
          · simp only [Bool.false_eq_true, if_false]
            exact Ev.bind (f := fun _ t => some t) (rmay_ev q.f1 _ hga.2.2 hz) (Ev.now _)
          · simp only [if_true]
            exact Ev.bind (f := fun _ t => some t) (rmust_ev q.f1 _ hga.2.2 hz) (Ev.now _)
        · simp only [if_neg (show ¬ q.f1.f1 < 0 by omega), if_neg (fun h : 0 ≤ q.f1.f1 ∧ q.f1.f1 < (l.length : Int) => c3 h.2), decide_eq_true (show q.f1.f1 ≥ (l.length : Int) by omega)]
          exact Ev.step (f := fun _ => some false) (fun k => by simp only [tithebarnref23_Known.j0, if_true]) (Ev.now false)
      · simp only [if_pos (show q.f1.f1 < 0 by omega), if_neg (fun h : 0 ≤ q.f1.f1 ∧ q.f1.f1 < (l.length : Int) => c2 h.1)]
        exact Ev.step (f := fun _ => some false) (fun k => by simp only [tithebarnref23_Known.j0, if_true]) (Ev.now false)
    · simp only [if_neg c1]
      by_cases c2 : q.f0 = 2
      · simp only [if_pos c2]
        refine Ev.step (f := fun k => tithebarnref23_Known.l0 k l all 0 q.f0 q.f1.f0 q.f1.f1 q.f1.f2.f0 q.f1.f2.f1 q.f1.f2.f2 q.f2) (fun k => by simp only [tithebarnref23_Known.j1]; rw [if_pos (by simp [c2])]) ?_
        have := kl_ev (l := l) (all := all) (v := kV n all l) true q.f0 q.f1.f0 q.f1.f1 (by simp [c2]) (by simp [c2]) q.f1.f2.f0 q.f1.f2.f1 q.f1.f2.f2 q.f2 hlen (fun x hx => rknown_ev hgl n all x (hk x hx)) q.f2.length 0 (by omega) (by omega)
        simpa using this
      · simp only [if_neg c2]
        by_cases c3 : q.f0 = 3
        · simp only [if_pos c3]
          refine Ev.step (f := fun k => tithebarnref23_Known.l0 k l all 0 q.f0 q.f1.f0 q.f1.f1 q.f1.f2.f0 q.f1.f2.f1 q.f1.f2.f2 q.f2) (fun k => by simp only [tithebarnref23_Known.j1]; rw [if_pos (by simp [c3])]) ?_
          have := kl_ev (l := l) (all := all) (v := kV n all l) false q.f0 q.f1.f0 q.f1.f1 (by simp [c3]) (by simp [c3]) q.f1.f2.f0 q.f1.f2.f1 q.f1.f2.f2 q.f2 hlen (fun x hx => rknown_ev hgl n all x (hk x hx)) q.f2.length 0 (by omega) (by omega)
          simpa using this
        · simp only [if_neg c3]
          by_cases c4 : q.f0 = 4
          · simp only [if_pos c4]
            refine Ev.step (f := fun k => if (q.f2.length : Int) = 0 then some true else if 0 < (q.f2.length : Int) then ((rknownAt k (!all) l (rd_T28 q.f2 0)).bind fun t => some (!t)) else none) (fun k => by
              simp only [tithebarnref23_Known.j1]; rw [if_neg (by simp [c3]), if_pos c4]; rfl) ?_
            cases hq : q.f2 with
            | nil => exact Ev.now true
            | cons x xs =>
              have e1 : ¬ (((x :: xs).length : Int) = 0) := by simp; omega
              have e2 : 0 < (((x :: xs).length : Int)) := by simp
              simp only [if_neg e1, if_pos e2]
              exact Ev.bind (f := fun _ t => some (!t)) (rknown_ev hgl n (!all) x (hk x (by rw [hq]; exact List.mem_cons_self ..))) (Ev.now _)
          · simp only [if_neg c4]
            refine Ev.step (f := fun _ => some false) (fun k => by simp only [tithebarnref23_Known.j1]; rw [if_neg (by simp [c3]), if_neg c4]) (Ev.now false)
end Go.Proofs.YtglcajijmkianaaDoor.A
