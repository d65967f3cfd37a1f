/- What a datum that is read says of the cells: each is of a kind; for ints, bools, strings, structs, slices; at whatever depth. · Queries, rows and zones that are parameters: what is read of them as data is what the cells say. -/
import Derived.Test.YtglcajijmkianaaDoorAx0
import Derived.Deep.Slices
import Derived.Deep.Strs
import Derived.Lib.SmallJoins
import Derived.ChangeMaps5
namespace Go.Proofs.YtglcajijmkianaaDoor.A
open Go.RowKit Go.Proofs.YtglcajijmkianaaDoorW.PrintWords Go.Proofs.YtglcajijmkianaaDoorW.PrintLast Go.Proofs.YtglcajijmkianaaDoorW.PrintMore
open Go.ChangeShapes Go.WideShapes Go.ChangeAt
set_option linter.unusedVariables false
set_option linter.unusedSimpArgs false

/-- What is read at type t with fuel n is of kind d, and Q holds of it and its datum. -/
def RdAt {H α : Type} (enc : TypeId × Value → H) (P : Program) (W : World) (t : TypeId) (d : Kd α) (Q : α → DataW H → Prop) (n : Nat) : Prop :=
  ∀ (base : Nat) (sp : Nat → Bool) (hd : Bool) (cs : List Value) (x : DataW H × List MemPlace), DataW.trod enc P W base sp hd n t cs = some x → ∃ y, d.K W y cs ∧ Q y x.1

theorem list_of {α : Type} {p : Nat → α → Prop} : ∀ n, (∀ i, i < n → ∃ y, p i y) → ∃ ys : List α, ys.length = n ∧ ∀ i y, ys[i]? = some y → p i y
  | 0, _ => ⟨[], rfl, by simp⟩
  | n + 1, h => by
    obtain ⟨ys, hl, hp⟩ := list_of n (fun i hi => h i (by omega))
    obtain ⟨y, hy⟩ := h n (by omega)
    refine ⟨ys ++ [y], by simp [hl], fun i z hz => ?_⟩
    by_cases hi : i < ys.length
    · rw [List.getElem?_append_left hi] at hz
      exact hp i z hz
    · have hi2 : i < (ys ++ [y]).length := (List.getElem?_eq_some_iff.1 hz).1
      have : i = n := by simp at hi2; omega
      subst this
      rw [List.getElem?_append_right (by omega), hl] at hz
      simp at hz
      subst hz
      exact hy

section
variable {H : Type} {enc : TypeId × Value → H} {P : Program} {W : World} {t : TypeId} {n : Nat}

theorem RdAt.weaken {α : Type} {d : Kd α} {Q Q' : α → DataW H → Prop} (h : RdAt enc P W t d Q n) (hq : ∀ y x, Q y x → Q' y x) : RdAt enc P W t d Q' n := fun base sp hd cs x hx => by
  obtain ⟨y, hk, hy⟩ := h base sp hd cs x hx
  exact ⟨y, hk, hq _ _ hy⟩

theorem rd_int {k : IntKind} (ht : P.underlying t = some (.int k)) : RdAt enc P W t (Kd.int k) (fun y x => (Lit.int k y).wf = true ∧ x = .lit (.int k y)) n := fun base sp hd cs x hx => by
  obtain ⟨m, rfl, hx, hw⟩ := DataW.trod_int ht hx
  exact ⟨m, rfl, hw, by rw [hx]⟩
theorem rd_bool (ht : P.underlying t = some .bool) : RdAt enc P W t Kd.bool (fun y x => x = .lit (.bool y)) n := fun base sp hd cs x hx => by
  obtain ⟨m, rfl, hx2⟩ := DataW.trod_bool ht hx
  exact ⟨m, rfl, by rw [hx2]⟩
theorem rd_string (ht : P.underlying t = some .string) : RdAt enc P W t Kd.string (fun y x => y.size ≤ maxLen ∧ x = .lit (.string y.data.toList)) n := fun base sp hd cs x hx => by
  obtain ⟨m, rfl, hx, hw⟩ := DataW.trod_string ht hx
  exact ⟨m, rfl, hw, by rw [hx]⟩

/-- A row that is read: each element of the kind. -/
def AllQ {H α : Type} (Q : α → DataW H → Prop) (ys : List α) (x : DataW H) : Prop :=
  (ys = [] ∧ x = .nil) ∨ ∃ ds rest, x = .slice ds rest ∧ ds.length = ys.length ∧ ys.length ≤ maxLen ∧ ∀ (i : Nat) y z, ys[i]? = some y → ds[i]? = some z → Q y z
theorem AllQ.mem {α : Type} {Q : α → DataW H → Prop} {ys : List α} {x : DataW H} (h : AllQ Q ys x) {y : α} (hy : y ∈ ys) : ∃ z, Q y z := by
  rcases h with ⟨rfl, _⟩ | ⟨ds, rest, _, hl, _, hq⟩
  · simp at hy
  · obtain ⟨i, hi, rfl⟩ := List.getElem_of_mem hy
    exact ⟨ds[i]'(by omega), hq i _ _ (List.getElem?_eq_getElem hi) (List.getElem?_eq_getElem (by omega))⟩
theorem AllQ.len {α : Type} {Q : α → DataW H → Prop} {ys : List α} {x : DataW H} (h : AllQ Q ys x) : ys.length ≤ maxLen := by
  rcases h with ⟨rfl, _⟩ | ⟨_, _, _, _, h, _⟩
  · exact Nat.zero_le _
  · exact h
theorem cells_at {a : Addr} {base m : Nat} {cs : List Value} (h : W.cells? base a m = some cs) : cs.length = m ∧ ∀ (i : Nat) u, cs[i]? = some u → W.cell? (a.add i) = some u := by
  obtain ⟨_, hl, hc⟩ := World.cells?_some h
  refine ⟨hl, fun i u hu => ?_⟩
  have hi : i < m := by have := (List.getElem?_eq_some_iff.1 hu).1; omega
  rw [hc i hi]
  exact hu
theorem rd_slice {α : Type} {d : Kd α} {e : TypeId} {Q : α → DataW H → Prop} (q : Nat) (ht : P.underlying t = some (.slice e)) (hc : P.cellsOf e = d.sz) (h : ∀ m, m < n → RdAt enc P W e d Q m) :
    RdAt enc P W t (Kd.slice q d) (AllQ Q) n := fun base sp hd cs x hx => by
  rcases DataW.trod_slice ht hx with ⟨rfl, rfl⟩ | ⟨a, len, cap, elems, rest, m, hm, rfl, rfl, hb, hl, hmx, hlen, hel, _, _⟩
  · exact ⟨[], ⟨none, 0, rfl, Nat.le_refl _, ⟨rfl, by simp, fun h0 => absurd h0 (by simp)⟩⟩, .inl ⟨rfl, rfl⟩⟩
  · obtain ⟨ys, hys, hp⟩ := list_of (p := fun i y => ∃ cs', W.cells? base (a.add (i * P.cellsOf e)) (P.cellsOf e) = some cs' ∧ d.K W y cs' ∧ ∀ z, elems[i]? = some z → Q y z.1) len (fun i hi => by
      have hk := hel i hi
      rw [List.getElem?_eq_getElem (by omega)] at hk
      obtain ⟨cs', h1, h2⟩ := Option.bind_eq_some_iff.1 hk
      obtain ⟨y, hy, hq⟩ := h m (by omega) _ _ _ _ _ h2
      refine ⟨y, cs', h1, hy, fun z hz => ?_⟩
      rw [List.getElem?_eq_getElem (by omega)] at hz
      cases hz
      exact hq)
    refine ⟨ys, ⟨some a, cap, by rw [hys], by omega, ⟨rfl, by unfold maxLen at hmx; omega, fun _ => ⟨a, rfl, fun j p hj => ?_⟩⟩⟩, .inr ⟨_, _, rfl, by simp [hys, hlen], by omega, fun i y z hy hz => ?_⟩⟩
    · obtain ⟨cs', h1, h2, _⟩ := hp j p hj
      obtain ⟨h3, h4⟩ := cells_at h1
      refine ⟨cs', by rw [h3, hc], h2, fun i u hu => ?_⟩
      have := h4 i u hu
      rw [Go.Deep.add_add, hc] at this
      exact this
    · obtain ⟨cs', _, _, hq⟩ := hp i y hy
      rw [List.getElem?_map] at hz
      cases hz2 : elems[i]? with
      | none => rw [hz2] at hz; simp at hz
      | some w => rw [hz2] at hz; simp at hz; subst hz; exact hq w hz2

theorem take_drop_parts {cs : List Value} {a b : Nat} (h : cs.length = a + b) : cs = cs.take a ++ cs.drop a := (List.take_append_drop a cs).symm

/-- Structs of two, three, four fields in line. -/
theorem rd_struct2 {α β : Type} {d0 : Kd α} {d1 : Kd β} {Q0 : α → DataW H → Prop} {Q1 : β → DataW H → Prop} {f0 f1 : Field} (ht : P.underlying t = some (.struct #[f0, f1]))
    (o0 : f0.offset = 0) (o1 : f1.offset = d0.sz) (c0 : P.cellsOf f0.type = d0.sz) (c1 : P.cellsOf f1.type = d1.sz) (hc : P.cellsOf t = d0.sz + d1.sz)
    (h0 : ∀ m, m < n → RdAt enc P W f0.type d0 Q0 m) (h1 : ∀ m, m < n → RdAt enc P W f1.type d1 Q1 m) :
    RdAt enc P W t (Kd.pair d0 d1) (fun y x => ∃ x0 x1, x = .agg [x0, x1] ∧ Q0 y.1 x0 ∧ Q1 y.2 x1) n := fun base sp hd cs x hx => by
  obtain ⟨xs, m, hm, rfl, hl, hlen, hf⟩ := DataW.trod_struct ht hx
  match xs, hlen with
  | [y0, y1], _ =>
    have e0 := hf 0 f0 rfl
    have e1 := hf 1 f1 rfl
    simp only [o0, o1, c0, c1, List.drop_zero] at e0 e1
    obtain ⟨z0, k0, q0⟩ := h0 m (by omega) _ _ _ _ _ e0
    obtain ⟨z1, k1, q1⟩ := h1 m (by omega) _ _ _ _ _ e1
    refine ⟨(z0, z1), ⟨cs.take d0.sz, cs.drop d0.sz, (List.take_append_drop _ _).symm, k0, ?_⟩, _, _, rfl, q0, q1⟩
    rwa [List.take_of_length_le (by simp; omega)] at k1
theorem rd_struct3 {α β γ : Type} {d0 : Kd α} {d1 : Kd β} {d2 : Kd γ} {Q0 : α → DataW H → Prop} {Q1 : β → DataW H → Prop} {Q2 : γ → DataW H → Prop} {f0 f1 f2 : Field} (ht : P.underlying t = some (.struct #[f0, f1, f2]))
    (o0 : f0.offset = 0) (o1 : f1.offset = d0.sz) (o2 : f2.offset = d0.sz + d1.sz) (c0 : P.cellsOf f0.type = d0.sz) (c1 : P.cellsOf f1.type = d1.sz) (c2 : P.cellsOf f2.type = d2.sz) (hc : P.cellsOf t = d0.sz + (d1.sz + d2.sz))
    (h0 : ∀ m, m < n → RdAt enc P W f0.type d0 Q0 m) (h1 : ∀ m, m < n → RdAt enc P W f1.type d1 Q1 m) (h2 : ∀ m, m < n → RdAt enc P W f2.type d2 Q2 m) :
    RdAt enc P W t (Kd.pair d0 (Kd.pair d1 d2)) (fun y x => ∃ x0 x1 x2, x = .agg [x0, x1, x2] ∧ Q0 y.1 x0 ∧ Q1 y.2.1 x1 ∧ Q2 y.2.2 x2) n := fun base sp hd cs x hx => by
  obtain ⟨xs, m, hm, rfl, hl, hlen, hf⟩ := DataW.trod_struct ht hx
  match xs, hlen with
  | [y0, y1, y2], _ =>
    have e0 := hf 0 f0 rfl
    have e1 := hf 1 f1 rfl
    have e2 := hf 2 f2 rfl
    simp only [o0, o1, o2, c0, c1, c2, List.drop_zero] at e0 e1 e2
    obtain ⟨z0, k0, q0⟩ := h0 m (by omega) _ _ _ _ _ e0
    obtain ⟨z1, k1, q1⟩ := h1 m (by omega) _ _ _ _ _ e1
    obtain ⟨z2, k2, q2⟩ := h2 m (by omega) _ _ _ _ _ e2
    refine ⟨(z0, z1, z2), ⟨cs.take d0.sz, cs.drop d0.sz, (List.take_append_drop _ _).symm, k0, ⟨(cs.drop d0.sz).take d1.sz, (cs.drop d0.sz).drop d1.sz, (List.take_append_drop _ _).symm, k1, ?_⟩⟩, _, _, _, rfl, q0, q1, q2⟩
    rw [List.drop_drop]
    rwa [List.take_of_length_le (by simp; omega)] at k2
theorem rd_struct4 {α β γ δ : Type} {d0 : Kd α} {d1 : Kd β} {d2 : Kd γ} {d3 : Kd δ} {Q0 : α → DataW H → Prop} {Q1 : β → DataW H → Prop} {Q2 : γ → DataW H → Prop} {Q3 : δ → DataW H → Prop} {f0 f1 f2 f3 : Field} (ht : P.underlying t = some (.struct #[f0, f1, f2, f3]))
    (o0 : f0.offset = 0) (o1 : f1.offset = d0.sz) (o2 : f2.offset = d0.sz + d1.sz) (o3 : f3.offset = d0.sz + (d1.sz + d2.sz)) (c0 : P.cellsOf f0.type = d0.sz) (c1 : P.cellsOf f1.type = d1.sz) (c2 : P.cellsOf f2.type = d2.sz) (c3 : P.cellsOf f3.type = d3.sz) (hc : P.cellsOf t = d0.sz + (d1.sz + (d2.sz + d3.sz)))
    (h0 : ∀ m, m < n → RdAt enc P W f0.type d0 Q0 m) (h1 : ∀ m, m < n → RdAt enc P W f1.type d1 Q1 m) (h2 : ∀ m, m < n → RdAt enc P W f2.type d2 Q2 m) (h3 : ∀ m, m < n → RdAt enc P W f3.type d3 Q3 m) :
    RdAt enc P W t (Kd.pair d0 (Kd.pair d1 (Kd.pair d2 d3))) (fun y x => ∃ x0 x1 x2 x3, x = .agg [x0, x1, x2, x3] ∧ Q0 y.1 x0 ∧ Q1 y.2.1 x1 ∧ Q2 y.2.2.1 x2 ∧ Q3 y.2.2.2 x3) n := fun base sp hd cs x hx => by
  obtain ⟨xs, m, hm, rfl, hl, hlen, hf⟩ := DataW.trod_struct ht hx
  match xs, hlen with
  | [y0, y1, y2, y3], _ =>
    have e0 := hf 0 f0 rfl
    have e1 := hf 1 f1 rfl
    have e2 := hf 2 f2 rfl
    have e3 := hf 3 f3 rfl
    simp only [o0, o1, o2, o3, c0, c1, c2, c3, List.drop_zero] at e0 e1 e2 e3
    obtain ⟨z0, k0, q0⟩ := h0 m (by omega) _ _ _ _ _ e0
    obtain ⟨z1, k1, q1⟩ := h1 m (by omega) _ _ _ _ _ e1
    obtain ⟨z2, k2, q2⟩ := h2 m (by omega) _ _ _ _ _ e2
    obtain ⟨z3, k3, q3⟩ := h3 m (by omega) _ _ _ _ _ e3
    refine ⟨(z0, z1, z2, z3), ⟨cs.take d0.sz, cs.drop d0.sz, (List.take_append_drop _ _).symm, k0, ⟨(cs.drop d0.sz).take d1.sz, (cs.drop d0.sz).drop d1.sz, (List.take_append_drop _ _).symm, k1, ⟨((cs.drop d0.sz).drop d1.sz).take d2.sz, ((cs.drop d0.sz).drop d1.sz).drop d2.sz, (List.take_append_drop _ _).symm, ?_, ?_⟩⟩⟩, _, _, _, _, rfl, q0, q1, q2, q3⟩
    · rw [List.drop_drop]; exact k2
    · rw [List.drop_drop, List.drop_drop]
      rwa [List.take_of_length_le (by simp; omega)] at k3
theorem rd_iso {α β : Type} {d : Kd α} {Q : α → DataW H → Prop} (f : β → α) (g : α → β) (hg : ∀ a, f (g a) = a) (h : RdAt enc P W t d Q n) : RdAt enc P W t (Kd.iso d f) (fun y x => Q (f y) x) n := fun base sp hd cs x hx => by
  obtain ⟨y, hk, hq⟩ := h base sp hd cs x hx
  refine ⟨g y, ?_, ?_⟩
  · show d.K W (f (g y)) cs
    rw [hg]; exact hk
  · show Q (f (g y)) x.1
    rw [hg]; exact hq

/-- A slice that is a parameter. -/
theorem arg_slice {α : Type} {d : Kd α} {e : TypeId} {Q : α → DataW H → Prop} {r : Reach} {b0 base : Nat} {sp : Nat → Bool} {hd : Bool} {v : Value} {x : DataW H} {p : List MemPlace} (ht : P.underlying t = some (.slice e)) (hc : P.cellsOf e = d.sz) (h : ∀ m, RdAt enc P W e d Q m)
    (hv : Value.okWide P W r b0 t v) (hx : DataW.Trod enc P W base sp hd t v x p) : ∃ A c, ∃ ys : List α, v = .slice A ys.length c ∧ ys.length ≤ c ∧ Kd.C d W A ys.length ys ∧ AllQ Q ys x := by
  obtain ⟨a, len, cap, rfl⟩ := okWide_slice ht hv
  obtain ⟨n, hn⟩ := hx
  obtain ⟨ys, hk, hq⟩ := rd_slice 0 ht hc (fun m _ => h m) (n := n) _ _ _ _ _ hn
  obtain ⟨A, c, e1, hl, hC⟩ := hk
  simp [Value.cells] at e1
  obtain ⟨rfl, rfl, rfl⟩ := e1
  exact ⟨a, cap, ys, rfl, hl, hC, hq⟩
/-- A struct that is a parameter. -/
theorem arg_struct {α : Type} {d : Kd α} {fs : Array Field} {Q : α → DataW H → Prop} {r : Reach} {b0 base : Nat} {sp : Nat → Bool} {hd : Bool} {v : Value} {x : DataW H} {p : List MemPlace} (ht : P.underlying t = some (.struct fs)) (h : ∀ m, RdAt enc P W t d (Q) m)
    (hv : Value.okWide P W r b0 t v) (hx : DataW.Trod enc P W base sp hd t v x p) : ∃ y cs, v = .agg cs.toArray ∧ d.K W y cs ∧ Q y x := by
  obtain ⟨cs, rfl, _⟩ := okWide_struct ht hv
  obtain ⟨n, hn⟩ := hx
  obtain ⟨y, hk, hq⟩ := h n _ _ _ _ _ hn
  exact ⟨y, cs.toList, by simp, by simpa [Value.cells] using hk, hq⟩
end
end Go.Proofs.YtglcajijmkianaaDoor.A
namespace Go.Proofs.YtglcajijmkianaaDoor.A
open Go.RowKit Go.Proofs.YtglcajijmkianaaDoorW.PrintWords Go.Proofs.YtglcajijmkianaaDoorW.PrintLast Go.Proofs.YtglcajijmkianaaDoorW.PrintMore
open Go.ChangeShapes Go.WideShapes Go.ChangeAt
set_option linter.unusedVariables false
set_option linter.unusedSimpArgs false

section
variable {H : Type} {enc : TypeId × Value → H} {W : World} {n : Nat}

def Q23 {H : Type} (y : S23) (x : DataW H) : Prop := (Lit.int .i64 y.f1).wf = true ∧ y.f2.size ≤ maxLen ∧ x = .agg [.lit (.bool y.f0), .lit (.int .i64 y.f1), .lit (.string y.f2.data.toList)]
theorem rd23 : RdAt enc Tryd.prog W 23 k23 Q23 n :=
  (rd_iso (fun x : S23 => (x.f0, x.f1, x.f2)) (fun a => ⟨a.1, a.2.1, a.2.2⟩) (fun _ => rfl) (rd_struct3 Tryd.underlying23 rfl rfl rfl (by kernel_rfl) (by kernel_rfl) (by kernel_rfl) (by kernel_rfl)
    (fun _ _ => rd_bool Tryd.underlying4) (fun _ _ => rd_int Tryd.underlying2) (fun _ _ => rd_string Tryd.underlying9))).weaken fun y x h => by
  obtain ⟨x0, x1, x2, rfl, rfl, ⟨h1, rfl⟩, h2, rfl⟩ := h
  exact ⟨h1, h2, rfl⟩
def Q25 {H : Type} (y : S25) (x : DataW H) : Prop := (Lit.int .i64 y.f0).wf = true ∧ (Lit.int .i64 y.f1).wf = true ∧ ∃ x2, Q23 y.f2 x2 ∧ x = .agg [.lit (.int .i64 y.f0), .lit (.int .i64 y.f1), x2]
theorem rd25 : RdAt enc Tryd.prog W 25 k25 Q25 n :=
  (rd_iso (fun x : S25 => (x.f0, x.f1, x.f2)) (fun a => ⟨a.1, a.2.1, a.2.2⟩) (fun _ => rfl) (rd_struct3 Tryd.underlying25 rfl rfl rfl (by kernel_rfl) (by kernel_rfl) (by kernel_rfl) (by kernel_rfl)
    (fun _ _ => rd_int Tryd.underlying3) (fun _ _ => rd_int Tryd.underlying3) (fun _ _ => rd23))).weaken fun y x h => by
  obtain ⟨x0, x1, x2, rfl, ⟨h0, rfl⟩, ⟨h1, rfl⟩, h2⟩ := h
  exact ⟨h0, h1, x2, h2, rfl⟩
def Q72 {H : Type} (y : S72) (x : DataW H) : Prop := ∃ x2 x3, Q23 y.f2 x2 ∧ Q23 y.f3 x3 ∧ x = .agg [.lit (.bool y.f0), .lit (.bool y.f1), x2, x3]
theorem rd72 : RdAt enc Tryd.prog W 72 k72 Q72 n :=
  (rd_iso (fun x : S72 => (x.f0, x.f1, x.f2, x.f3)) (fun a => ⟨a.1, a.2.1, a.2.2.1, a.2.2.2⟩) (fun _ => rfl) (rd_struct4 Tryd.underlying72 rfl rfl rfl rfl (by kernel_rfl) (by kernel_rfl) (by kernel_rfl) (by kernel_rfl) (by kernel_rfl)
    (fun _ _ => rd_bool Tryd.underlying4) (fun _ _ => rd_bool Tryd.underlying4) (fun _ _ => rd23) (fun _ _ => rd23))).weaken fun y x h => by
  obtain ⟨x0, x1, x2, x3, rfl, rfl, rfl, h2, h3⟩ := h
  exact ⟨x2, x3, h2, h3, rfl⟩

def Q28 {H : Type} : Nat → S28 → DataW H → Prop
  | 0, _, _ => False
  | n + 1, y, x => (Lit.int .i64 y.f0).wf = true ∧ ∃ x1 x2, Q25 y.f1 x1 ∧ AllQ (Q28 n) y.f2 x2 ∧ x = .agg [.lit (.int .i64 y.f0), x1, x2]
theorem AllQ.imp {α : Type} {Q Q' : α → DataW H → Prop} (hq : ∀ y x, Q y x → Q' y x) {ys : List α} {x : DataW H} (h : AllQ Q ys x) : AllQ Q' ys x := by
  rcases h with h | ⟨ds, rest, h1, h2, h3, h4⟩
  · exact .inl h
  · exact .inr ⟨ds, rest, h1, h2, h3, fun i y z a b => hq _ _ (h4 i y z a b)⟩
theorem Q28.step : ∀ (n : Nat) (y : S28) (x : DataW H), Q28 n y x → Q28 (n + 1) y x
  | 0, _, _, h => h.elim
  | n + 1, y, x, h => by
    obtain ⟨h0, x1, x2, h1, h2, rfl⟩ := h
    exact ⟨h0, x1, x2, h1, h2.imp (Q28.step n), rfl⟩
theorem Q28.le {n m : Nat} (h : n ≤ m) {y : S28} {x : DataW H} (hq : Q28 n y x) : Q28 m y x := by
  induction h with
  | refl => exact hq
  | step _ ih => exact Q28.step _ _ _ ih
theorem rd28 : ∀ n, RdAt enc Tryd.prog W 28 k28 (Q28 n) n := by
  intro n
  induction n using Nat.strongRecOn with
  | _ n ih =>
  intro base sp hd cs x hx
  cases n with
  | zero => simp [DataW.trod] at hx
  | succ n =>
  obtain ⟨⟨z0, z1, z2⟩, ⟨c0, c1, rfl, rfl, c2, c3, rfl, hk1, A, c, rfl, hl, hC⟩, x0, x1, x2, hx2, ⟨hw, rfl⟩, hq1, hq2⟩ :=
    rd_struct3 (n := n + 1) (d0 := Kd.int .i64) (d1 := k25) (d2 := Kd.slice 28 k28) (Q2 := AllQ (Q28 n)) Tryd.underlying28 rfl rfl rfl (by kernel_rfl) (by kernel_rfl) (by kernel_rfl) (by kernel_rfl)
      (fun _ _ => rd_int Tryd.underlying3) (fun _ _ => rd25) (fun m hm => rd_slice 28 Tryd.underlying26 (by kernel_rfl) (fun m2 hm2 => (ih m2 (by omega)).weaken (fun y x h => Q28.le (by omega) h))) base sp hd cs x hx
  obtain rfl := k25_open hk1
  refine ⟨⟨z0, z1, z2⟩, k28_mk W ⟨z0, z1, z2⟩ hl hC, hw, x1, x2, hq1, hq2, hx2⟩
/-- What may be counted on. -/
def Gd23 (v : S23) : Prop := (Lit.int .i64 v.f1).wf = true ∧ v.f2.size ≤ maxLen
def Gd25 (a : S25) : Prop := (Lit.int .i64 a.f0).wf = true ∧ (Lit.int .i64 a.f1).wf = true ∧ Gd23 a.f2
def Gd28 : Nat → S28 → Prop
  | 0, _ => False
  | n + 1, q => (Lit.int .i64 q.f0).wf = true ∧ Gd25 q.f1 ∧ q.f2.length ≤ maxLen ∧ ∀ k ∈ q.f2, Gd28 n k
theorem Q23.gd {y : S23} {x : DataW H} (h : Q23 y x) : Gd23 y := ⟨h.1, h.2.1⟩
theorem Q25.gd {y : S25} {x : DataW H} (h : Q25 y x) : Gd25 y := by
  obtain ⟨h0, h1, x2, h2, _⟩ := h
  exact ⟨h0, h1, h2.gd⟩
theorem Q28.gd : ∀ (n : Nat) (y : S28) (x : DataW H), Q28 n y x → Gd28 n y
  | 0, _, _, h => h.elim
  | n + 1, y, x, h => by
    obtain ⟨h0, x1, x2, h1, h2, _⟩ := h
    refine ⟨h0, h1.gd, h2.len, fun k hk => ?_⟩
    obtain ⟨z, hz⟩ := h2.mem hk
    exact Q28.gd n k z hz
set_option maxRecDepth 100000 in
/-- A query that is a parameter. -/
theorem arg28 {r : Reach} {b0 base : Nat} {sp : Nat → Bool} {hd : Bool} {v : Value} {x : DataW H} {p : List MemPlace} (hv : Value.okWide Tryd.prog W r b0 28 v) (hx : DataW.Trod enc Tryd.prog W base sp hd 28 v x p) :
    ∃ (y : S28) (A : Option Addr) (c m : Nat), v = .agg #[.int .i64 y.f0, .int .i64 y.f1.f0, .int .i64 y.f1.f1, .bool y.f1.f2.f0, .int .i64 y.f1.f2.f1, .string y.f1.f2.f2, .slice A y.f2.length c] ∧ y.f2.length ≤ c ∧ Kd.C k28 W A y.f2.length y.f2 ∧ Q28 m y x ∧ Gd28 m y := by
  obtain ⟨cs, rfl, _⟩ := okWide_struct Tryd.underlying28 hv
  obtain ⟨n, hn⟩ := hx
  obtain ⟨y, hk, hq⟩ := rd28 n _ _ _ _ _ hn
  obtain ⟨A, c, e, hl, hC⟩ := k28_open hk
  refine ⟨y, A, c, n, ?_, hl, hC, hq, hq.gd⟩
  have e2 := congrArg List.toArray e
  simp only [Value.cells, Array.toArray_toList] at e2
  exact congrArg Value.agg e2
end
end Go.Proofs.YtglcajijmkianaaDoor.A
