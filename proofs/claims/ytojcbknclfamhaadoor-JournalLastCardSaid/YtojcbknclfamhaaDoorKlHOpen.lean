/- What a datum that is read says of the cells: each is of a kind; for ints, bools, strings, structs, slices; at whatever depth. -/
import Derived.Test.YtojcbknclfamhaaDoorKlAx0
import Derived.Deep.Slices
import Derived.Deep.Strs
import Derived.Lib.SmallJoins
import Derived.ChangeMaps5
namespace Go.Proofs.YtojcbknclfamhaaDoor.A
open Go.RowKit Go.Proofs.YtojcbknclfamhaaDoorW.PrintWords Go.Proofs.YtojcbknclfamhaaDoorW.PrintLast Go.Proofs.YtojcbknclfamhaaDoorW.PrintMore
open Go.ChangeShapes Go.WideShapes Go.ChangeAt
set_option linter.unusedVariables false
set_option linter.unusedSimpArgs false
def RdAt {H α : Type} (enc : TypeId × Value → H) (P : Program) (W : World) (t : TypeId) (d : Kd α) (Q : α → DataW H → Prop) (n : Nat) : Prop :=
  ∀ (base : Nat) (sp : Nat → Bool) (hd : Bool) (cs : List Value) (x : DataW H × List MemPlace), DataW.trod enc P W base sp hd n t cs = some x → ∃ y, d.K W y cs ∧ Q y x.1
theorem list_of {α : Type} {p : Nat → α → Prop} : ∀ n, (∀ i, i < n → ∃ y, p i y) → ∃ ys : List α, ys.length = n ∧ ∀ i y, ys[i]? = some y → p i y
  | 0, _ => ⟨[], rfl, by simp⟩
  | n + 1, h => by
    obtain ⟨ys, hl, hp⟩ := list_of n (fun i hi => h i (by omega))
    obtain ⟨y, hy⟩ := h n (by omega)
    refine ⟨ys ++ [y], by simp [hl], fun i z hz => ?_⟩
    by_cases hi : i < ys.length
    · rw [List.getElem?_append_left hi] at hz
      exact hp i z hz
    · have hi2 : i < (ys ++ [y]).length := (List.getElem?_eq_some_iff.1 hz).1
      have : i = n := by simp at hi2; omega
      subst this
      rw [List.getElem?_append_right (by omega), hl] at hz
      simp at hz
      subst hz
      exact hy
section
variable {H : Type} {enc : TypeId × Value → H} {P : Program} {W : World} {t : TypeId} {n : Nat}
theorem RdAt.weaken {α : Type} {d : Kd α} {Q Q' : α → DataW H → Prop} (h : RdAt enc P W t d Q n) (hq : ∀ y x, Q y x → Q' y x) : RdAt enc P W t d Q' n := fun base sp hd cs x hx => by
  obtain ⟨y, hk, hy⟩ := h base sp hd cs x hx
  exact ⟨y, hk, hq _ _ hy⟩
theorem rd_int {k : IntKind} (ht : P.underlying t = some (.int k)) : RdAt enc P W t (Kd.int k) (fun y x => (Lit.int k y).wf = true ∧ x = .lit (.int k y)) n := fun base sp hd cs x hx => by
  obtain ⟨m, rfl, hx, hw⟩ := DataW.trod_int ht hx
  exact ⟨m, rfl, hw, by rw [hx]⟩
theorem rd_bool (ht : P.underlying t = some .bool) : RdAt enc P W t Kd.bool (fun y x => x = .lit (.bool y)) n := fun base sp hd cs x hx => by
  obtain ⟨m, rfl, hx2⟩ := DataW.trod_bool ht hx
  exact ⟨m, rfl, by rw [hx2]⟩
theorem rd_string (ht : P.underlying t = some .string) : RdAt enc P W t Kd.string (fun y x => y.size ≤ maxLen ∧ x = .lit (.string y.data.toList)) n := fun base sp hd cs x hx => by
  obtain ⟨m, rfl, hx, hw⟩ := DataW.trod_string ht hx
  exact ⟨m, rfl, hw, by rw [hx]⟩
def AllQ {H α : Type} (Q : α → DataW H → Prop) (ys : List α) (x : DataW H) : Prop :=
  (ys = [] ∧ x = .nil) ∨ ∃ ds rest, x = .slice ds rest ∧ ds.length = ys.length ∧ ys.length ≤ maxLen ∧ ∀ (i : Nat) y z, ys[i]? = some y → ds[i]? = some z → Q y z
theorem AllQ.mem {α : Type} {Q : α → DataW H → Prop} {ys : List α} {x : DataW H} (h : AllQ Q ys x) {y : α} (hy : y ∈ ys) : ∃ z, Q y z := by
  rcases h with ⟨rfl, _⟩ | ⟨ds, rest, _, hl, _, hq⟩
  · simp at hy
  · obtain ⟨i, hi, rfl⟩ := List.getElem_of_mem hy
    exact ⟨ds[i]'(by omega), hq i _ _ (List.getElem?_eq_getElem hi) (List.getElem?_eq_getElem (by omega))⟩
theorem cells_at {a : Addr} {base m : Nat} {cs : List Value} (h : W.cells? base a m = some cs) : cs.length = m ∧ ∀ (i : Nat) u, cs[i]? = some u → W.cell? (a.add i) = some u := by
  obtain ⟨_, hl, hc⟩ := World.cells?_some h
  refine ⟨hl, fun i u hu => ?_⟩
  have hi : i < m := by have := (List.getElem?_eq_some_iff.1 hu).1; omega
  rw [hc i hi]
  exact hu
theorem rd_slice {α : Type} {d : Kd α} {e : TypeId} {Q : α → DataW H → Prop} (q : Nat) (ht : P.underlying t = some (.slice e)) (hc : P.cellsOf e = d.sz) (h : ∀ m, m < n → RdAt enc P W e d Q m) :
    RdAt enc P W t (Kd.slice q d) (AllQ Q) n := fun base sp hd cs x hx => by
  rcases DataW.trod_slice ht hx with ⟨rfl, rfl⟩ | ⟨a, len, cap, elems, rest, m, hm, rfl, rfl, hb, hl, hmx, hlen, hel, _, _⟩
  · exact ⟨[], ⟨none, 0, rfl, Nat.le_refl _, ⟨rfl, by simp, fun h0 => absurd h0 (by simp)⟩⟩, .inl ⟨rfl, rfl⟩⟩
  · obtain ⟨ys, hys, hp⟩ := list_of (p := fun i y => ∃ cs', W.cells? base (a.add (i * P.cellsOf e)) (P.cellsOf e) = some cs' ∧ d.K W y cs' ∧ ∀ z, elems[i]? = some z → Q y z.1) len (fun i hi => by
      have hk := hel i hi
      rw [List.getElem?_eq_getElem (by omega)] at hk
      obtain ⟨cs', h1, h2⟩ := Option.bind_eq_some_iff.1 hk
      obtain ⟨y, hy, hq⟩ := h m (by omega) _ _ _ _ _ h2
      refine ⟨y, cs', h1, hy, fun z hz => ?_⟩
      rw [List.getElem?_eq_getElem (by omega)] at hz
      cases hz
      exact hq)
    refine ⟨ys, ⟨some a, cap, by rw [hys], by omega, ⟨rfl, by unfold maxLen at hmx; omega, fun _ => ⟨a, rfl, fun j p hj => ?_⟩⟩⟩, .inr ⟨_, _, rfl, by simp [hys, hlen], by omega, fun i y z hy hz => ?_⟩⟩
    · obtain ⟨cs', h1, h2, _⟩ := hp j p hj
      obtain ⟨h3, h4⟩ := cells_at h1
      refine ⟨cs', by rw [h3, hc], h2, fun i u hu => ?_⟩
      have := h4 i u hu
      rw [Go.Deep.add_add, hc] at this
      exact this
    · obtain ⟨cs', _, _, hq⟩ := hp i y hy
      rw [List.getElem?_map] at hz
      cases hz2 : elems[i]? with
      | none => rw [hz2] at hz; simp at hz
      | some w => rw [hz2] at hz; simp at hz; subst hz; exact hq w hz2
theorem rd_struct2 {α β : Type} {d0 : Kd α} {d1 : Kd β} {Q0 : α → DataW H → Prop} {Q1 : β → DataW H → Prop} {f0 f1 : Field} (ht : P.underlying t = some (.struct #[f0, f1]))
    (o0 : f0.offset = 0) (o1 : f1.offset = d0.sz) (c0 : P.cellsOf f0.type = d0.sz) (c1 : P.cellsOf f1.type = d1.sz) (hc : P.cellsOf t = d0.sz + d1.sz)
    (h0 : ∀ m, m < n → RdAt enc P W f0.type d0 Q0 m) (h1 : ∀ m, m < n → RdAt enc P W f1.type d1 Q1 m) :
    RdAt enc P W t (Kd.pair d0 d1) (fun y x => ∃ x0 x1, x = .agg [x0, x1] ∧ Q0 y.1 x0 ∧ Q1 y.2 x1) n := fun base sp hd cs x hx => by
  obtain ⟨xs, m, hm, rfl, hl, hlen, hf⟩ := DataW.trod_struct ht hx
  match xs, hlen with
  | [y0, y1], _ =>
    have e0 := hf 0 f0 rfl
    have e1 := hf 1 f1 rfl
    simp only [o0, o1, c0, c1, List.drop_zero] at e0 e1
    obtain ⟨z0, k0, q0⟩ := h0 m (by omega) _ _ _ _ _ e0
    obtain ⟨z1, k1, q1⟩ := h1 m (by omega) _ _ _ _ _ e1
    refine ⟨(z0, z1), ⟨cs.take d0.sz, cs.drop d0.sz, (List.take_append_drop _ _).symm, k0, ?_⟩, _, _, rfl, q0, q1⟩
    rwa [List.take_of_length_le (by simp; omega)] at k1
theorem rd_struct3 {α β γ : Type} {d0 : Kd α} {d1 : Kd β} {d2 : Kd γ} {Q0 : α → DataW H → Prop} {Q1 : β → DataW H → Prop} {Q2 : γ → DataW H → Prop} {f0 f1 f2 : Field} (ht : P.underlying t = some (.struct #[f0, f1, f2]))
    (o0 : f0.offset = 0) (o1 : f1.offset = d0.sz) (o2 : f2.offset = d0.sz + d1.sz) (c0 : P.cellsOf f0.type = d0.sz) (c1 : P.cellsOf f1.type = d1.sz) (c2 : P.cellsOf f2.type = d2.sz) (hc : P.cellsOf t = d0.sz + (d1.sz + d2.sz))
    (h0 : ∀ m, m < n → RdAt enc P W f0.type d0 Q0 m) (h1 : ∀ m, m < n → RdAt enc P W f1.type d1 Q1 m) (h2 : ∀ m, m < n → RdAt enc P W f2.type d2 Q2 m) :
    RdAt enc P W t (Kd.pair d0 (Kd.pair d1 d2)) (fun y x => ∃ x0 x1 x2, x = .agg [x0, x1, x2] ∧ Q0 y.1 x0 ∧ Q1 y.2.1 x1 ∧ Q2 y.2.2 x2) n := fun base sp hd cs x hx => by
  obtain ⟨xs, m, hm, rfl, hl, hlen, hf⟩ := DataW.trod_struct ht hx
  match xs, hlen with
  | [y0, y1, y2], _ =>
    have e0 := hf 0 f0 rfl
    have e1 := hf 1 f1 rfl
    have e2 := hf 2 f2 rfl
    simp only [o0, o1, o2, c0, c1, c2, List.drop_zero] at e0 e1 e2
    obtain ⟨z0, k0, q0⟩ := h0 m (by omega) _ _ _ _ _ e0
    obtain ⟨z1, k1, q1⟩ := h1 m (by omega) _ _ _ _ _ e1
    obtain ⟨z2, k2, q2⟩ := h2 m (by omega) _ _ _ _ _ e2
    refine ⟨(z0, z1, z2), ⟨cs.take d0.sz, cs.drop d0.sz, (List.take_append_drop _ _).symm, k0, ⟨(cs.drop d0.sz).take d1.sz, (cs.drop d0.sz).drop d1.sz, (List.take_append_drop _ _).symm, k1, ?_⟩⟩, _, _, _, rfl, q0, q1, q2⟩
    rw [List.drop_drop]
    rwa [List.take_of_length_le (by simp; omega)] at k2
theorem rd_iso {α β : Type} {d : Kd α} {Q : α → DataW H → Prop} (f : β → α) (g : α → β) (hg : ∀ a, f (g a) = a) (h : RdAt enc P W t d Q n) : RdAt enc P W t (Kd.iso d f) (fun y x => Q (f y) x) n := fun base sp hd cs x hx => by
  obtain ⟨y, hk, hq⟩ := h base sp hd cs x hx
  refine ⟨g y, ?_, ?_⟩
  · show d.K W (f (g y)) cs
    rw [hg]; exact hk
  · show Q (f (g y)) x.1
    rw [hg]; exact hq
theorem arg_slice {α : Type} {d : Kd α} {e : TypeId} {Q : α → DataW H → Prop} {r : Reach} {b0 base : Nat} {sp : Nat → Bool} {hd : Bool} {v : Value} {x : DataW H} {p : List MemPlace} (ht : P.underlying t = some (.slice e)) (hc : P.cellsOf e = d.sz) (h : ∀ m, RdAt enc P W e d Q m)
    (hv : Value.okWide P W r b0 t v) (hx : DataW.Trod enc P W base sp hd t v x p) : ∃ A c, ∃ ys : List α, v = .slice A ys.length c ∧ ys.length ≤ c ∧ Kd.C d W A ys.length ys ∧ AllQ Q ys x := by
  obtain ⟨a, len, cap, rfl⟩ := okWide_slice ht hv
  obtain ⟨n, hn⟩ := hx
  obtain ⟨ys, hk, hq⟩ := rd_slice 0 ht hc (fun m _ => h m) (n := n) _ _ _ _ _ hn
  obtain ⟨A, c, e1, hl, hC⟩ := hk
  simp [Value.cells] at e1
  obtain ⟨rfl, rfl, rfl⟩ := e1
  exact ⟨a, cap, ys, rfl, hl, hC, hq⟩
end
end Go.Proofs.YtojcbknclfamhaaDoor.A
