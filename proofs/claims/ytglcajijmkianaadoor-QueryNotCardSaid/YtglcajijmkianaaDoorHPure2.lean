/- Which queries hold for a row, by the program and by the document: one answer, told by a plain function; no program in sight. -/
import Derived.Test.YtglcajijmkianaaDoorAx0
import Derived.Test.YtglcajijmkianaaDoorAx3
import Derived.Test.YtglcajijmkianaaDoorAx5
import Derived.Test.YtglcajijmkianaaDoorAx6
import Derived.Test.YtglcajijmkianaaDoorHPure
namespace Go.Proofs.YtglcajijmkianaaDoor.A
open Go.RowKit Go.Proofs.YtglcajijmkianaaDoorW.PrintWords Go.Proofs.YtglcajijmkianaaDoorW.PrintLast Go.Proofs.YtglcajijmkianaaDoorW.PrintMore
set_option linter.unusedVariables false
set_option linter.unusedSimpArgs false

def refAt (k : Nat) (l1 : List S23) (q : S28) : Option Bool := tithebarnref23_Holds.f k q.f0 q.f1.f0 q.f1.f1 q.f1.f2.f0 q.f1.f2.f1 q.f1.f2.f2 q.f2 l1
def hV : Nat → List S23 → S28 → Bool
  | 0, _, _ => false
  | n + 1, l, q => if q.f0 = 1 then (if 0 ≤ q.f1.f1 ∧ q.f1.f1 < (l.length : Int) then zhV q.f1 (rd_T23 l q.f1.f1) else false)
    else if q.f0 = 2 then q.f2.all (hV n l) else if q.f0 = 3 then q.f2.any (hV n l) else if q.f0 = 4 then (match q.f2 with | [] => true | k :: _ => !hV n l k) else false

theorem any_ev {p : Nat → S28 → Option Bool} {v : S28 → Bool} : ∀ xs : List S28, (∀ x ∈ xs, Ev (fun k => p k x) (v x)) → Ev (fun k => anyO (p k) xs) (xs.any v)
  | [], _ => Ev.now false
  | x :: xs, h => by
    refine Ev.bind (f := fun k b => if b = true then some true else anyO (p k) xs) (h x (List.mem_cons_self ..)) ?_
    rw [List.any_cons]
    cases v x
    · exact Ev.congr (fun k => by rfl) (any_ev xs (fun y hy => h y (List.mem_cons_of_mem _ hy)))
    · exact Ev.now true
theorem not_ev {p : Nat → S28 → Option Bool} {v : S28 → Bool} {x : S28} (h : Ev (fun k => p k x) (v x)) : Ev (fun k => notO (p k) x) (!v x) :=
  Ev.bind (f := fun _ b => some (!b)) h (Ev.now _)
theorem every_ev {p : Nat → S28 → Option Bool} {v : S28 → Bool} (xs : List S28) (h : ∀ x ∈ xs, Ev (fun k => p k x) (v x)) : Ev (fun k => everyO (p k) xs) (xs.all v) := by
  obtain ⟨K, hK⟩ := any_ev (p := fun k => notO (p k)) (v := fun x => !v x) xs (fun x hx => not_ev (h x hx))
  refine ⟨K, fun k hk => ?_⟩
  have := hK k hk
  simp only at this
  simp only [everyO, this, Option.map_some]
  congr 1
  rw [← List.all_eq_not_any_not]

theorem rd23_mem {l : List S23} {i : Int} (h : 0 ≤ i ∧ i < (l.length : Int)) : rd_T23 l i ∈ l := by
  unfold rd_T23
  rw [List.getD_eq_getElem?_getD, List.getElem?_eq_getElem (by omega)]
  exact List.getElem_mem _
theorem holds_ev {l : List S23} : ∀ (n : Nat) (q : S28), Gd28 n q → Ev (fun k => holdsAt k l q) (hV n l q)
  | 0, _, h => h.elim
  | n + 1, q, h => by
    obtain ⟨_, _, _, hk⟩ := h
    refine Ev.step (f := fun k => if q.f0 = 1 then (if 0 ≤ q.f1.f1 then (if q.f1.f1 < (l.length : Int) then zone_Holds.f k q.f1.f0 q.f1.f1 q.f1.f2.f0 q.f1.f2.f1 q.f1.f2.f2 (rd_T23 l q.f1.f1).f0 (rd_T23 l q.f1.f1).f1 (rd_T23 l q.f1.f1).f2 else some false) else some false)
      else if q.f0 = 2 then everyO (holdsAt k l) q.f2 else if q.f0 = 3 then anyO (holdsAt k l) q.f2 else if q.f0 = 4 then (match q.f2 with | [] => some true | x :: _ => notO (holdsAt k l) x) else some false) (fun k => Holds_succ k _ _ _ _ _ _ _ _) ?_
    unfold hV
    by_cases c1 : q.f0 = 1
    · simp only [if_pos c1]
      by_cases c2 : 0 ≤ q.f1.f1
      · by_cases c3 : q.f1.f1 < (l.length : Int)
        · simp only [if_pos c2, if_pos c3, if_pos (And.intro c2 c3)]
          exact zone_Holds_ev q.f1 _
        · simp only [if_pos c2, if_neg c3, if_neg (fun h : 0 ≤ q.f1.f1 ∧ q.f1.f1 < (l.length : Int) => c3 h.2)]
          exact Ev.now false
      · simp only [if_neg c2, if_neg (fun h : 0 ≤ q.f1.f1 ∧ q.f1.f1 < (l.length : Int) => c2 h.1)]
        exact Ev.now false
    · simp only [if_neg c1]
      by_cases c2 : q.f0 = 2
      · simp only [if_pos c2]
        exact every_ev q.f2 (fun x hx => holds_ev n x (hk x hx))
      · simp only [if_neg c2]
        by_cases c3 : q.f0 = 3
        · simp only [if_pos c3]
          exact any_ev q.f2 (fun x hx => holds_ev n x (hk x hx))
        · simp only [if_neg c3]
          by_cases c4 : q.f0 = 4
          · simp only [if_pos c4]
            cases hq : q.f2 with
            | nil => exact Ev.now true
            | cons x xs => exact not_ev (v := hV n l) (holds_ev n x (hk x (by rw [hq]; exact List.mem_cons_self ..)))
          · simp only [if_neg c4]
            exact Ev.now false

theorem rd28_at {xs : List S28} {i : Nat} (h : i < xs.length) : rd_T28 xs (i : Int) = xs[i] := by simp [rd_T28, h]
theorem wrap_succ {n i : Nat} (h : n ≤ maxLen) (hi : i < n) : wrap64 ((i : Int) + 1) = ((i + 1 : Nat) : Int) := by unfold wrap64; unfold maxLen at h; omega
theorem l0_ev {l : List S23} {v : S28 → Bool} (a0 a1 a2 : Int) (a3 : Bool) (a4 : Int) (a5 : ByteArray) (xs : List S28) (hl : xs.length ≤ maxLen) (hv : ∀ x ∈ xs, Ev (fun k => refAt k l x) (v x)) : ∀ d i, xs.length - i ≤ d → i ≤ xs.length →
    Ev (fun k => tithebarnref23_Holds.l0 k l (i : Int) a0 a1 a2 a3 a4 a5 xs) ((xs.drop i).all v) := by
  intro d
  induction d with
  | zero =>
    intro i hd hi
    refine Ev.step (f := fun _ => some true) (fun k => by simp only [tithebarnref23_Holds.l0]; rw [if_neg (by omega)]) ?_
    rw [List.drop_eq_nil_of_le (by omega)]
    exact Ev.now true
  | succ d ih =>
    intro i hd hi
    by_cases h : i < xs.length
    · refine Ev.step (f := fun k => (refAt k l xs[i]).bind fun t => if t = true then tithebarnref23_Holds.l0 k l ((i + 1 : Nat) : Int) a0 a1 a2 a3 a4 a5 xs else some false) (fun k => by
        simp only [tithebarnref23_Holds.l0]
        rw [if_pos (by omega), if_pos (by omega), rd28_at h, wrap_succ hl h]; rfl) ?_
      refine Ev.bind (f := fun k t => if t = true then tithebarnref23_Holds.l0 k l ((i + 1 : Nat) : Int) a0 a1 a2 a3 a4 a5 xs else some false) (hv _ (List.getElem_mem h)) ?_
      rw [List.drop_eq_getElem_cons h, List.all_cons]
      cases v xs[i]
      · exact Ev.now false
      · exact ih (i + 1) (by omega) (by omega)
    · refine Ev.step (f := fun _ => some true) (fun k => by simp only [tithebarnref23_Holds.l0]; rw [if_neg (by omega)]) ?_
      rw [List.drop_eq_nil_of_le (by omega)]
      exact Ev.now true
theorem l1_ev {l : List S23} {v : S28 → Bool} (a0 a1 a2 : Int) (a3 : Bool) (a4 : Int) (a5 : ByteArray) (xs : List S28) (hl : xs.length ≤ maxLen) (hv : ∀ x ∈ xs, Ev (fun k => refAt k l x) (v x)) : ∀ d i, xs.length - i ≤ d → i ≤ xs.length →
    Ev (fun k => tithebarnref23_Holds.l1 k l (i : Int) a0 a1 a2 a3 a4 a5 xs) ((xs.drop i).any v) := by
  intro d
  induction d with
  | zero =>
    intro i hd hi
    refine Ev.step (f := fun _ => some false) (fun k => by simp only [tithebarnref23_Holds.l1]; rw [if_neg (by omega)]) ?_
    rw [List.drop_eq_nil_of_le (by omega)]
    exact Ev.now false
  | succ d ih =>
    intro i hd hi
    by_cases h : i < xs.length
    · refine Ev.step (f := fun k => (refAt k l xs[i]).bind fun t => if t = true then some true else tithebarnref23_Holds.l1 k l ((i + 1 : Nat) : Int) a0 a1 a2 a3 a4 a5 xs) (fun k => by
        simp only [tithebarnref23_Holds.l1]
        rw [if_pos (by omega), if_pos (by omega), rd28_at h, wrap_succ hl h]; rfl) ?_
      refine Ev.bind (f := fun k t => if t = true then some true else tithebarnref23_Holds.l1 k l ((i + 1 : Nat) : Int) a0 a1 a2 a3 a4 a5 xs) (hv _ (List.getElem_mem h)) ?_
      rw [List.drop_eq_getElem_cons h, List.any_cons]
      cases v xs[i]
      · exact ih (i + 1) (by omega) (by omega)
      · exact Ev.now true
    · refine Ev.step (f := fun _ => some false) (fun k => by simp only [tithebarnref23_Holds.l1]; rw [if_neg (by omega)]) ?_
      rw [List.drop_eq_nil_of_le (by omega)]
      exact Ev.now false
theorem ref_ev {l : List S23} (hgl : ∀ v ∈ l, Gd23 v) : ∀ (n : Nat) (q : S28), Gd28 n q → Ev (fun k => refAt k l q) (hV n l q)
  | 0, _, h => h.elim
  | n + 1, q, h => by
    obtain ⟨_, hga, hlen, hk⟩ := h
    refine Ev.step (f := fun k => if q.f0 = 1 then (if q.f1.f1 ≥ 0 then (if q.f1.f1 < (l.length : Int) then (if 0 ≤ q.f1.f1 then ((tithebarnref11_Holds.f k q.f1.f0 q.f1.f1 q.f1.f2.f0 q.f1.f2.f1 q.f1.f2.f2 (rd_T23 l q.f1.f1).f0 (rd_T23 l q.f1.f1).f1 (rd_T23 l q.f1.f1).f2).bind fun t => some t) else none) else some false) else some false)
      else if q.f0 = 2 then tithebarnref23_Holds.l0 k l 0 q.f0 q.f1.f0 q.f1.f1 q.f1.f2.f0 q.f1.f2.f1 q.f1.f2.f2 q.f2 else if q.f0 = 3 then tithebarnref23_Holds.l1 k l 0 q.f0 q.f1.f0 q.f1.f1 q.f1.f2.f0 q.f1.f2.f1 q.f1.f2.f2 q.f2
      else if q.f0 = 4 then (if (q.f2.length : Int) = 0 then some true else if 0 < (q.f2.length : Int) then ((refAt k l (rd_T28 q.f2 0)).bind fun t => some (!t)) else none) else some false) (fun k => by simp only [refAt, tithebarnref23_Holds.f]) ?_
    unfold hV
    by_cases c1 : q.f0 = 1
    · simp only [if_pos c1]
      by_cases c2 : 0 ≤ q.f1.f1
      · by_cases c3 : q.f1.f1 < (l.length : Int)
        · simp only [if_pos c2, if_pos c3, if_pos (And.intro c2 c3), ge_iff_le]
          exact Ev.bind (f := fun _ t => some t) (refHolds_ev q.f1 _ (hgl _ (rd23_mem ⟨c2, c3⟩)) hga.2.2) (Ev.now _)
        · simp only [if_pos c2, if_neg c3, if_neg (fun h : 0 ≤ q.f1.f1 ∧ q.f1.f1 < (l.length : Int) => c3 h.2), ge_iff_le]
          exact Ev.now false
      · simp only [if_neg c2, if_neg (fun h : 0 ≤ q.f1.f1 ∧ q.f1.f1 < (l.length : Int) => c2 h.1), ge_iff_le]
        exact Ev.now false
    · simp only [if_neg c1]
      by_cases c2 : q.f0 = 2
      · simp only [if_pos c2]
        exact l0_ev _ _ _ _ _ _ q.f2 hlen (fun x hx => ref_ev hgl n x (hk x hx)) q.f2.length 0 (by omega) (by omega)
      · simp only [if_neg c2]
        by_cases c3 : q.f0 = 3
        · simp only [if_pos c3]
          exact l1_ev _ _ _ _ _ _ q.f2 hlen (fun x hx => ref_ev hgl n x (hk x hx)) q.f2.length 0 (by omega) (by omega)
        · simp only [if_neg c3]
          by_cases c4 : q.f0 = 4
          · simp only [if_pos c4]
            cases hq : q.f2 with
            | nil => exact Ev.now true
            | cons x xs =>
              have e1 : ¬ (((x :: xs).length : Int) = 0) := by simp; omega
              have e2 : 0 < (((x :: xs).length : Int)) := by simp
              simp only [if_neg e1, if_pos e2]
              exact Ev.bind (f := fun _ t => some (!t)) (ref_ev hgl n x (hk x (by rw [hq]; exact List.mem_cons_self ..))) (Ev.now _)
          · simp only [if_neg c4]
            exact Ev.now false
end Go.Proofs.YtglcajijmkianaaDoor.A
