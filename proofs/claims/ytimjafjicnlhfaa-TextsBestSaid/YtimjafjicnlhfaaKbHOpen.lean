/- What a datum that is read says of the cells: each is of a kind; for ints, bools, strings, structs, slices; at whatever depth. -/
import Derived.Test.YtimjafjicnlhfaaKbAx0
import Derived.Deep.Slices
import Derived.Deep.Strs
import Derived.Lib.SmallJoins
import Derived.ChangeMaps5
namespace Go.Proofs.Ytimjafjicnlhfaa.A
open Go.RowKit Go.Proofs.YtimjafjicnlhfaaW.PrintWords Go.Proofs.YtimjafjicnlhfaaW.PrintLast Go.Proofs.YtimjafjicnlhfaaW.PrintMore
open Go.ChangeShapes Go.WideShapes Go.ChangeAt
set_option linter.unusedVariables false
set_option linter.unusedSimpArgs false
def RdAt {H α : Type} (enc : TypeId × Value → H) (P : Program) (W : World) (t : TypeId) (d : Kd α) (Q : α → DataW H → Prop) (n : Nat) : Prop :=
  ∀ (base : Nat) (sp : Nat → Bool) (hd : Bool) (cs : List Value) (x : DataW H × List MemPlace), DataW.trod enc P W base sp hd n t cs = some x → ∃ y, d.K W y cs ∧ Q y x.1
theorem list_of {α : Type} {p : Nat → α → Prop} : ∀ n, (∀ i, i < n → ∃ y, p i y) → ∃ ys : List α, ys.length = n ∧ ∀ i y, ys[i]? = some y → p i y
  | 0, _ => ⟨[], rfl, by simp⟩
  | n + 1, h => by
    obtain ⟨ys, hl, hp⟩ := list_of n (fun i hi => h i (by omega))
    obtain ⟨y, hy⟩ := h n (by omega)
    refine ⟨ys ++ [y], by simp [hl], fun i z hz => ?_⟩
    by_cases hi : i < ys.length
    · rw [List.getElem?_append_left hi] at hz
      exact hp i z hz
    · have hi2 : i < (ys ++ [y]).length := (List.getElem?_eq_some_iff.1 hz).1
      have : i = n := by simp at hi2; omega
      subst this
      rw [List.getElem?_append_right (by omega), hl] at hz
      simp at hz
      subst hz
      exact hy
section
variable {H : Type} {enc : TypeId × Value → H} {P : Program} {W : World} {t : TypeId} {n : Nat}
theorem rd_string (ht : P.underlying t = some .string) : RdAt enc P W t Kd.string (fun y x => y.size ≤ maxLen ∧ x = .lit (.string y.data.toList)) n := fun base sp hd cs x hx => by
  obtain ⟨m, rfl, hx, hw⟩ := DataW.trod_string ht hx
  exact ⟨m, rfl, hw, by rw [hx]⟩
def AllQ {H α : Type} (Q : α → DataW H → Prop) (ys : List α) (x : DataW H) : Prop :=
  (ys = [] ∧ x = .nil) ∨ ∃ ds rest, x = .slice ds rest ∧ ds.length = ys.length ∧ ys.length ≤ maxLen ∧ ∀ (i : Nat) y z, ys[i]? = some y → ds[i]? = some z → Q y z
theorem cells_at {a : Addr} {base m : Nat} {cs : List Value} (h : W.cells? base a m = some cs) : cs.length = m ∧ ∀ (i : Nat) u, cs[i]? = some u → W.cell? (a.add i) = some u := by
  obtain ⟨_, hl, hc⟩ := World.cells?_some h
  refine ⟨hl, fun i u hu => ?_⟩
  have hi : i < m := by have := (List.getElem?_eq_some_iff.1 hu).1; omega
  rw [hc i hi]
  exact hu
theorem rd_slice {α : Type} {d : Kd α} {e : TypeId} {Q : α → DataW H → Prop} (q : Nat) (ht : P.underlying t = some (.slice e)) (hc : P.cellsOf e = d.sz) (h : ∀ m, m < n → RdAt enc P W e d Q m) :
    RdAt enc P W t (Kd.slice q d) (AllQ Q) n := fun base sp hd cs x hx => by
  rcases DataW.trod_slice ht hx with ⟨rfl, rfl⟩ | ⟨a, len, cap, elems, rest, m, hm, rfl, rfl, hb, hl, hmx, hlen, hel, _, _⟩
  · exact ⟨[], ⟨none, 0, rfl, Nat.le_refl _, ⟨rfl, by simp, fun h0 => absurd h0 (by simp)⟩⟩, .inl ⟨rfl, rfl⟩⟩
  · obtain ⟨ys, hys, hp⟩ := list_of (p := fun i y => ∃ cs', W.cells? base (a.add (i * P.cellsOf e)) (P.cellsOf e) = some cs' ∧ d.K W y cs' ∧ ∀ z, elems[i]? = some z → Q y z.1) len (fun i hi => by
      have hk := hel i hi
      rw [List.getElem?_eq_getElem (by omega)] at hk
      obtain ⟨cs', h1, h2⟩ := Option.bind_eq_some_iff.1 hk
      obtain ⟨y, hy, hq⟩ := h m (by omega) _ _ _ _ _ h2
      refine ⟨y, cs', h1, hy, fun z hz => ?_⟩
      rw [List.getElem?_eq_getElem (by omega)] at hz
      cases hz
      exact hq)
    refine ⟨ys, ⟨some a, cap, by rw [hys], by omega, ⟨rfl, by unfold maxLen at hmx; omega, fun _ => ⟨a, rfl, fun j p hj => ?_⟩⟩⟩, .inr ⟨_, _, rfl, by simp [hys, hlen], by omega, fun i y z hy hz => ?_⟩⟩
    · obtain ⟨cs', h1, h2, _⟩ := hp j p hj
      obtain ⟨h3, h4⟩ := cells_at h1
      refine ⟨cs', by rw [h3, hc], h2, fun i u hu => ?_⟩
      have := h4 i u hu
      rw [Go.Deep.add_add, hc] at this
      exact this
    · obtain ⟨cs', _, _, hq⟩ := hp i y hy
      rw [List.getElem?_map] at hz
      cases hz2 : elems[i]? with
      | none => rw [hz2] at hz; simp at hz
      | some w => rw [hz2] at hz; simp at hz; subst hz; exact hq w hz2
theorem arg_slice {α : Type} {d : Kd α} {e : TypeId} {Q : α → DataW H → Prop} {r : Reach} {b0 base : Nat} {sp : Nat → Bool} {hd : Bool} {v : Value} {x : DataW H} {p : List MemPlace} (ht : P.underlying t = some (.slice e)) (hc : P.cellsOf e = d.sz) (h : ∀ m, RdAt enc P W e d Q m)
    (hv : Value.okWide P W r b0 t v) (hx : DataW.Trod enc P W base sp hd t v x p) : ∃ A c, ∃ ys : List α, v = .slice A ys.length c ∧ ys.length ≤ c ∧ Kd.C d W A ys.length ys ∧ AllQ Q ys x := by
  obtain ⟨a, len, cap, rfl⟩ := okWide_slice ht hv
  obtain ⟨n, hn⟩ := hx
  obtain ⟨ys, hk, hq⟩ := rd_slice 0 ht hc (fun m _ => h m) (n := n) _ _ _ _ _ hn
  obtain ⟨A, c, e1, hl, hC⟩ := hk
  simp [Value.cells] at e1
  obtain ⟨rfl, rfl, rfl⟩ := e1
  exact ⟨a, cap, ys, rfl, hl, hC, hq⟩
end
end Go.Proofs.Ytimjafjicnlhfaa.A
