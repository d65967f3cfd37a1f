/- What the rows' list of package-level variables gives: strconv's table, its errors; and a world that holds them. -/
import Derived.Test.YtojcbknclfamhaaDoorKlAx0
import Derived.Test.YtojcbknclfamhaaDoorKlHTab
import Derived.Test.YtojcbknclfamhaaDoorRows
import Derived.Test.YtojcbknclfamhaaDoorTie
import Derived.Lib.LaidTab
import Derived.LaidMore
import Derived.Stop.LaidErr
import Derived.MakeChecks
namespace Go.Proofs.YtojcbknclfamhaaDoor.A
open Go.RowKit Go.Proofs.YtojcbknclfamhaaDoorW.PrintWords Go.Proofs.YtojcbknclfamhaaDoorW.PrintLast Go.Proofs.YtojcbknclfamhaaDoorW.PrintMore
open Go.Lib Go.ChangeShapes Go.WideShapes
set_option linter.unusedVariables false
set_option linter.unusedSimpArgs false
theorem iface_cell {P : Program} {W : World} {n : String} {d : DataW Unit} {r : List (String × DataW Unit)} {g : Nat} {ti : TypeId} {ms : Array (String × TypeId)} (h : laidMet P ((n, d) :: r) W)
    (hg : P.globalNamed n = some g) (ht : (P.globals[g]?).map (·.type) = some ti) (hi : P.underlying ti = some (.interface ms)) : ∃ ev, W.cell? ⟨g, 0, none⟩ = some ev ∧ (ev = .nilIface ∨ ∃ te pe, ev = .iface te pe) := by
  obtain ⟨ps, ⟨g0, t0, cs0, f0, p0, q0, hg0, ht0, hv0, hd0, _, e0⟩, _, hrows⟩ := h
  obtain rfl := Option.some.inj (hg.symm.trans hg0)
  obtain rfl := Option.some.inj (ht.symm.trans ht0)
  have hc := World.var?_cell hg0 hv0 0
  obtain ⟨l0⟩ := cs0
  cases f0 with
  | zero => simp [DataW.trod] at hd0
  | succ m =>
    unfold DataW.trod at hd0
    rw [hi] at hd0
    split at hd0 <;> simp_all
def laid5 : List (String × DataW Unit) := Rows.journalNamesRow.laid
theorem Globs.laid {W : World} (h : laidMetH Tryd.prog laid5 W) : Globs W := by
  rw [MakeChecks.laidMetH_plain _ _ _ (by kernel_rfl)] at h
  have h3 := laidMet.tail (laidMet.tail h)
  have h4 := laidMet.tail h3
  have h5 := laidMet.tail h4
  refine ⟨Lib.tabIs_of_head (rest := [("strconv.ErrRange", Rows.laid_strconv_ErrRange), ("strconv.ErrSyntax", Rows.laid_strconv_ErrSyntax)]) (g := 2) (t := 155) (e := 66) (n := 20) (by kernel_rfl) (by kernel_rfl) (by kernel_rfl) (by kernel_rfl) (by kernel_rfl) (by kernel_rfl) h3, ?_, ?_⟩
  · exact iface_cell (g := 0) (ti := 54) h5 (by kernel_rfl) (by kernel_rfl) Tryd.underlying54
  · exact iface_cell (g := 1) (ti := 54) h4 (by kernel_rfl) (by kernel_rfl) Tryd.underlying54
theorem door_met (os : Os) (args : Array Value) : laidMet Tryd.prog laid5 ((World.doorLaid Tryd.prog 62 os).forCall (fun _ _ => 0) ⟨#[], args, []⟩).memory :=
  laidMet_of_run' 8 (by kernel_rfl) (by kernel_rfl)
end Go.Proofs.YtojcbknclfamhaaDoor.A
