/- Columns, values, rows and deeds that are parameters: what is read of them as data is what the cells say. -/
import Derived.Test.YtojcbknclfamhaaDoorKlAx0
import Derived.Test.YtojcbknclfamhaaDoorKlHOpen
namespace Go.Proofs.YtojcbknclfamhaaDoor.A
open Go.RowKit Go.Proofs.YtojcbknclfamhaaDoorW.PrintWords Go.Proofs.YtojcbknclfamhaaDoorW.PrintLast Go.Proofs.YtojcbknclfamhaaDoorW.PrintMore
open Go.ChangeShapes Go.WideShapes Go.ChangeAt
set_option linter.unusedVariables false
set_option linter.unusedSimpArgs false
section
variable {H : Type} {enc : TypeId × Value → H} {W : World} {n : Nat}
def QVal {H : Type} (y : S45) (x : DataW H) : Prop := (Lit.int .i64 y.f1).wf = true
theorem rdValue : RdAt enc Tryd.prog W 45 k45 QVal n :=
  (rd_iso (fun x : S45 => (x.f0, x.f1, x.f2)) (fun a => ⟨a.1, a.2.1, a.2.2⟩) (fun _ => rfl) (rd_struct3 Tryd.underlying45 rfl rfl rfl (by kernel_rfl) (by kernel_rfl) (by kernel_rfl) (by kernel_rfl)
    (fun _ _ => rd_bool Tryd.underlying4) (fun _ _ => rd_int Tryd.underlying2) (fun _ _ => rd_string Tryd.underlying9))).weaken fun y x h => by
  obtain ⟨x0, x1, x2, rfl, rfl, ⟨h1, rfl⟩, h2, rfl⟩ := h
  exact h1
def QCol {H : Type} (y : S50) (x : DataW H) : Prop := True
theorem rdColumn : RdAt enc Tryd.prog W 50 k50 QCol n :=
  (rd_iso (fun x : S50 => (x.f0, x.f1)) (fun a => ⟨a.1, a.2⟩) (fun _ => rfl) (rd_struct2 Tryd.underlying50 rfl rfl (by kernel_rfl) (by kernel_rfl) (by kernel_rfl)
    (fun _ _ => rd_int Tryd.underlying48) (fun _ _ => rd_bool Tryd.underlying4))).weaken fun y x h => trivial
def QDeed {H : Type} (y : S36) (x : DataW H) : Prop := ∀ v ∈ y.f1, (Lit.int .i64 v.f1).wf = true
theorem rdDeed : RdAt enc Tryd.prog W 36 k36 QDeed n :=
  (rd_iso (fun x : S36 => (x.f0, x.f1)) (fun a => ⟨a.1, a.2⟩) (fun _ => rfl) (rd_struct2 (d1 := Kd.slice 45 k45) (Q1 := AllQ QVal) Tryd.underlying36 rfl rfl (by kernel_rfl) (by kernel_rfl) (by kernel_rfl)
    (fun _ _ => rd_bool Tryd.underlying4) (fun _ _ => rd_slice 45 Tryd.underlying34 (by kernel_rfl) (fun _ _ => rdValue)))).weaken fun y x h => by
  obtain ⟨x0, x1, rfl, rfl, h1⟩ := h
  intro v hv
  obtain ⟨z, hz⟩ := h1.mem hv
  exact hz
end
end Go.Proofs.YtojcbknclfamhaaDoor.A
