/- Which queries hold for a row, by the program and by the document: one answer, told by a plain function; no program in sight. -/
import Derived.Test.YtglcajijmkianaaDoorKAx0
import Derived.Test.YtglcajijmkianaaDoorKAx3
import Derived.Test.YtglcajijmkianaaDoorKAx4
import Derived.Test.YtglcajijmkianaaDoorKHPure
namespace Go.Proofs.YtglcajijmkianaaDoor.A
open Go.RowKit Go.Proofs.YtglcajijmkianaaDoorW.PrintWords Go.Proofs.YtglcajijmkianaaDoorW.PrintLast Go.Proofs.YtglcajijmkianaaDoorW.PrintMore
set_option linter.unusedVariables false
set_option linter.unusedSimpArgs false
theorem any_ev {p : Nat → S28 → Option Bool} {v : S28 → Bool} : ∀ xs : List S28, (∀ x ∈ xs, Ev (fun k => p k x) (v x)) → Ev (fun k => anyO (p k) xs) (xs.any v)
  | [], _ => Ev.now false
  | x :: xs, h => by
    refine Ev.bind (f := fun k b => if b = true then some true else anyO (p k) xs) (h x (List.mem_cons_self ..)) ?_
    rw [List.any_cons]
    cases v x
    · exact Ev.congr (fun k => by rfl) (any_ev xs (fun y hy => h y (List.mem_cons_of_mem _ hy)))
    · exact Ev.now true
theorem not_ev {p : Nat → S28 → Option Bool} {v : S28 → Bool} {x : S28} (h : Ev (fun k => p k x) (v x)) : Ev (fun k => notO (p k) x) (!v x) :=
  Ev.bind (f := fun _ b => some (!b)) h (Ev.now _)
theorem every_ev {p : Nat → S28 → Option Bool} {v : S28 → Bool} (xs : List S28) (h : ∀ x ∈ xs, Ev (fun k => p k x) (v x)) : Ev (fun k => everyO (p k) xs) (xs.all v) := by
  obtain ⟨K, hK⟩ := any_ev (p := fun k => notO (p k)) (v := fun x => !v x) xs (fun x hx => not_ev (h x hx))
  refine ⟨K, fun k hk => ?_⟩
  have := hK k hk
  simp only at this
  simp only [everyO, this, Option.map_some]
  congr 1
  rw [← List.all_eq_not_any_not]
theorem rd28_at {xs : List S28} {i : Nat} (h : i < xs.length) : rd_T28 xs (i : Int) = xs[i] := by simp [rd_T28, h]
theorem wrap_succ {n i : Nat} (h : n ≤ maxLen) (hi : i < n) : wrap64 ((i : Int) + 1) = ((i + 1 : Nat) : Int) := by unfold wrap64; unfold maxLen at h; omega
end Go.Proofs.YtglcajijmkianaaDoor.A
