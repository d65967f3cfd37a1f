/- Queries, rows and zones that are parameters: what is read of them as data is what the cells say. -/
import Derived.Test.YtglcajijmkianaaDoorAx0
import Derived.Test.YtglcajijmkianaaDoorHOpen
namespace Go.Proofs.YtglcajijmkianaaDoor.A
open Go.RowKit Go.Proofs.YtglcajijmkianaaDoorW.PrintWords Go.Proofs.YtglcajijmkianaaDoorW.PrintLast Go.Proofs.YtglcajijmkianaaDoorW.PrintMore
open Go.ChangeShapes Go.WideShapes Go.ChangeAt
set_option linter.unusedVariables false
set_option linter.unusedSimpArgs false

section
variable {H : Type} {enc : TypeId × Value → H} {W : World} {n : Nat}

def Q23 {H : Type} (y : S23) (x : DataW H) : Prop := (Lit.int .i64 y.f1).wf = true ∧ y.f2.size ≤ maxLen ∧ x = .agg [.lit (.bool y.f0), .lit (.int .i64 y.f1), .lit (.string y.f2.data.toList)]
theorem rd23 : RdAt enc Tryd.prog W 23 k23 Q23 n :=
  (rd_iso (fun x : S23 => (x.f0, x.f1, x.f2)) (fun a => ⟨a.1, a.2.1, a.2.2⟩) (fun _ => rfl) (rd_struct3 Tryd.underlying23 rfl rfl rfl (by kernel_rfl) (by kernel_rfl) (by kernel_rfl) (by kernel_rfl)
    (fun _ _ => rd_bool Tryd.underlying4) (fun _ _ => rd_int Tryd.underlying2) (fun _ _ => rd_string Tryd.underlying9))).weaken fun y x h => by
  obtain ⟨x0, x1, x2, rfl, rfl, ⟨h1, rfl⟩, h2, rfl⟩ := h
  exact ⟨h1, h2, rfl⟩
def Q25 {H : Type} (y : S25) (x : DataW H) : Prop := (Lit.int .i64 y.f0).wf = true ∧ (Lit.int .i64 y.f1).wf = true ∧ ∃ x2, Q23 y.f2 x2 ∧ x = .agg [.lit (.int .i64 y.f0), .lit (.int .i64 y.f1), x2]
theorem rd25 : RdAt enc Tryd.prog W 25 k25 Q25 n :=
  (rd_iso (fun x : S25 => (x.f0, x.f1, x.f2)) (fun a => ⟨a.1, a.2.1, a.2.2⟩) (fun _ => rfl) (rd_struct3 Tryd.underlying25 rfl rfl rfl (by kernel_rfl) (by kernel_rfl) (by kernel_rfl) (by kernel_rfl)
    (fun _ _ => rd_int Tryd.underlying3) (fun _ _ => rd_int Tryd.underlying3) (fun _ _ => rd23))).weaken fun y x h => by
  obtain ⟨x0, x1, x2, rfl, ⟨h0, rfl⟩, ⟨h1, rfl⟩, h2⟩ := h
  exact ⟨h0, h1, x2, h2, rfl⟩
def Q72 {H : Type} (y : S72) (x : DataW H) : Prop := ∃ x2 x3, Q23 y.f2 x2 ∧ Q23 y.f3 x3 ∧ x = .agg [.lit (.bool y.f0), .lit (.bool y.f1), x2, x3]
theorem rd72 : RdAt enc Tryd.prog W 72 k72 Q72 n :=
  (rd_iso (fun x : S72 => (x.f0, x.f1, x.f2, x.f3)) (fun a => ⟨a.1, a.2.1, a.2.2.1, a.2.2.2⟩) (fun _ => rfl) (rd_struct4 Tryd.underlying72 rfl rfl rfl rfl (by kernel_rfl) (by kernel_rfl) (by kernel_rfl) (by kernel_rfl) (by kernel_rfl)
    (fun _ _ => rd_bool Tryd.underlying4) (fun _ _ => rd_bool Tryd.underlying4) (fun _ _ => rd23) (fun _ _ => rd23))).weaken fun y x h => by
  obtain ⟨x0, x1, x2, x3, rfl, rfl, rfl, h2, h3⟩ := h
  exact ⟨x2, x3, h2, h3, rfl⟩

def Q28 {H : Type} : Nat → S28 → DataW H → Prop
  | 0, _, _ => False
  | n + 1, y, x => (Lit.int .i64 y.f0).wf = true ∧ ∃ x1 x2, Q25 y.f1 x1 ∧ AllQ (Q28 n) y.f2 x2 ∧ x = .agg [.lit (.int .i64 y.f0), x1, x2]
theorem AllQ.imp {α : Type} {Q Q' : α → DataW H → Prop} (hq : ∀ y x, Q y x → Q' y x) {ys : List α} {x : DataW H} (h : AllQ Q ys x) : AllQ Q' ys x := by
  rcases h with h | ⟨ds, rest, h1, h2, h3, h4⟩
  · exact .inl h
  · exact .inr ⟨ds, rest, h1, h2, h3, fun i y z a b => hq _ _ (h4 i y z a b)⟩
theorem Q28.step : ∀ (n : Nat) (y : S28) (x : DataW H), Q28 n y x → Q28 (n + 1) y x
  | 0, _, _, h => h.elim
  | n + 1, y, x, h => by
    obtain ⟨h0, x1, x2, h1, h2, rfl⟩ := h
    exact ⟨h0, x1, x2, h1, h2.imp (Q28.step n), rfl⟩
theorem Q28.le {n m : Nat} (h : n ≤ m) {y : S28} {x : DataW H} (hq : Q28 n y x) : Q28 m y x := by
  induction h with
  | refl => exact hq
  | step _ ih => exact Q28.step _ _ _ ih
theorem rd28 : ∀ n, RdAt enc Tryd.prog W 28 k28 (Q28 n) n := by
  intro n
  induction n using Nat.strongRecOn with
  | _ n ih =>
  intro base sp hd cs x hx
  cases n with
  | zero => simp [DataW.trod] at hx
  | succ n =>
  obtain ⟨⟨z0, z1, z2⟩, ⟨c0, c1, rfl, rfl, c2, c3, rfl, hk1, A, c, rfl, hl, hC⟩, x0, x1, x2, hx2, ⟨hw, rfl⟩, hq1, hq2⟩ :=
    rd_struct3 (n := n + 1) (d0 := Kd.int .i64) (d1 := k25) (d2 := Kd.slice 28 k28) (Q2 := AllQ (Q28 n)) Tryd.underlying28 rfl rfl rfl (by kernel_rfl) (by kernel_rfl) (by kernel_rfl) (by kernel_rfl)
      (fun _ _ => rd_int Tryd.underlying3) (fun _ _ => rd25) (fun m hm => rd_slice 28 Tryd.underlying26 (by kernel_rfl) (fun m2 hm2 => (ih m2 (by omega)).weaken (fun y x h => Q28.le (by omega) h))) base sp hd cs x hx
  obtain rfl := k25_open hk1
  refine ⟨⟨z0, z1, z2⟩, k28_mk W ⟨z0, z1, z2⟩ hl hC, hw, x1, x2, hq1, hq2, hx2⟩
/-- What may be counted on. -/
def Gd23 (v : S23) : Prop := (Lit.int .i64 v.f1).wf = true ∧ v.f2.size ≤ maxLen
def Gd25 (a : S25) : Prop := (Lit.int .i64 a.f0).wf = true ∧ (Lit.int .i64 a.f1).wf = true ∧ Gd23 a.f2
def Gd28 : Nat → S28 → Prop
  | 0, _ => False
  | n + 1, q => (Lit.int .i64 q.f0).wf = true ∧ Gd25 q.f1 ∧ q.f2.length ≤ maxLen ∧ ∀ k ∈ q.f2, Gd28 n k
theorem Q23.gd {y : S23} {x : DataW H} (h : Q23 y x) : Gd23 y := ⟨h.1, h.2.1⟩
theorem Q25.gd {y : S25} {x : DataW H} (h : Q25 y x) : Gd25 y := by
  obtain ⟨h0, h1, x2, h2, _⟩ := h
  exact ⟨h0, h1, h2.gd⟩
theorem Q28.gd : ∀ (n : Nat) (y : S28) (x : DataW H), Q28 n y x → Gd28 n y
  | 0, _, _, h => h.elim
  | n + 1, y, x, h => by
    obtain ⟨h0, x1, x2, h1, h2, _⟩ := h
    refine ⟨h0, h1.gd, h2.len, fun k hk => ?_⟩
    obtain ⟨z, hz⟩ := h2.mem hk
    exact Q28.gd n k z hz
set_option maxRecDepth 100000 in
/-- A query that is a parameter. -/
theorem arg28 {r : Reach} {b0 base : Nat} {sp : Nat → Bool} {hd : Bool} {v : Value} {x : DataW H} {p : List MemPlace} (hv : Value.okWide Tryd.prog W r b0 28 v) (hx : DataW.Trod enc Tryd.prog W base sp hd 28 v x p) :
    ∃ (y : S28) (A : Option Addr) (c m : Nat), v = .agg #[.int .i64 y.f0, .int .i64 y.f1.f0, .int .i64 y.f1.f1, .bool y.f1.f2.f0, .int .i64 y.f1.f2.f1, .string y.f1.f2.f2, .slice A y.f2.length c] ∧ y.f2.length ≤ c ∧ Kd.C k28 W A y.f2.length y.f2 ∧ Q28 m y x ∧ Gd28 m y := by
  obtain ⟨cs, rfl, _⟩ := okWide_struct Tryd.underlying28 hv
  obtain ⟨n, hn⟩ := hx
  obtain ⟨y, hk, hq⟩ := rd28 n _ _ _ _ _ hn
  obtain ⟨A, c, e, hl, hC⟩ := k28_open hk
  refine ⟨y, A, c, n, ?_, hl, hC, hq, hq.gd⟩
  have e2 := congrArg List.toArray e
  simp only [Value.cells, Array.toArray_toList] at e2
  exact congrArg Value.agg e2
end
end Go.Proofs.YtglcajijmkianaaDoor.A
