/- Steps that are parameters: what is read of them as data is what the cells say. -/
import Derived.Test.YtephblclhojffaaAx0
import Derived.Test.YtephblclhojffaaHOpen
namespace Go.Proofs.Ytephblclhojffaa.A
open Go.RowKit Go.Proofs.YtephblclhojffaaW.PrintWords Go.Proofs.YtephblclhojffaaW.PrintLast Go.Proofs.YtephblclhojffaaW.PrintMore
open Go.ChangeShapes Go.WideShapes Go.ChangeAt
set_option linter.unusedVariables false
set_option linter.unusedSimpArgs false

section
variable {H : Type} {enc : TypeId × Value → H} {W : World} {n : Nat}
def QInt {H : Type} (k : IntKind) (y : Int) (x : DataW H) : Prop := (Lit.int k y).wf = true ∧ x = .lit (.int k y)
def Q24 {H : Type} (y : S24) (x : DataW H) : Prop := ∃ x4, (Lit.int .i64 y.f0).wf = true ∧ (Lit.int .i64 y.f3).wf = true ∧ y.f1.size ≤ maxLen ∧ y.f2.size ≤ maxLen ∧ AllQ (QInt .i64) y.f4 x4 ∧
  x = .agg [.lit (.int .i64 y.f0), .lit (.string y.f1.data.toList), .lit (.string y.f2.data.toList), .lit (.int .i64 y.f3), x4]
theorem rd24 : RdAt enc Try.prog W 24 k24 Q24 n :=
  (rd_iso (fun x : S24 => (x.f0, x.f1, x.f2, x.f3, x.f4)) (fun a => ⟨a.1, a.2.1, a.2.2.1, a.2.2.2.1, a.2.2.2.2⟩) (fun _ => rfl) (rd_struct5 Try.underlying24 rfl rfl rfl rfl rfl (by kernel_rfl) (by kernel_rfl) (by kernel_rfl) (by kernel_rfl) (by kernel_rfl) (by kernel_rfl)
    (fun _ _ => rd_int Try.underlying3) (fun _ _ => rd_string Try.underlying9) (fun _ _ => rd_string Try.underlying9) (fun _ _ => rd_int Try.underlying3)
    (fun _ _ => rd_slice 3 Try.underlying22 (by kernel_rfl) (fun _ _ => rd_int Try.underlying3)))).weaken fun y x h => by
  obtain ⟨x0, x1, x2, x3, x4, rfl, ⟨h0, rfl⟩, ⟨h1, rfl⟩, ⟨h2, rfl⟩, ⟨h3, rfl⟩, h4⟩ := h
  exact ⟨x4, h0, h3, h1, h2, h4, rfl⟩
set_option maxRecDepth 100000 in
/-- A step that is a parameter. -/
theorem arg24 {r : Reach} {b0 base : Nat} {sp : Nat → Bool} {hd : Bool} {v : Value} {x : DataW H} {p : List MemPlace} (hv : Value.okWide Try.prog W r b0 24 v) (hx : DataW.Trod enc Try.prog W base sp hd 24 v x p) :
    ∃ (y : S24) (A : Option Addr) (c : Nat), v = .agg #[.int .i64 y.f0, .string y.f1, .string y.f2, .int .i64 y.f3, .slice A y.f4.length c] ∧ y.f4.length ≤ c ∧ (Kd.int .i64).C W A y.f4.length y.f4 ∧ Q24 y x := by
  obtain ⟨y, cs, rfl, hk, hq⟩ := arg_struct Try.underlying24 (fun m => rd24) hv hx
  obtain ⟨A, c, rfl, hl, hC⟩ := k24_open hk
  exact ⟨y, A, c, rfl, hl, hC, hq⟩
end
end Go.Proofs.Ytephblclhojffaa.A
