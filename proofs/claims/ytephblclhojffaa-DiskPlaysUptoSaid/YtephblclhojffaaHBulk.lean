/- What the second form's bound gives. -/
import Derived.Test.YtephblclhojffaaAx0
import Derived.Test.YtephblclhojffaaHRd
import Derived.Test.YtephblclhojffaaHAt
import Derived.Test.YtephblclhojffaaRows
namespace Go.Proofs.Ytephblclhojffaa.A
open Go.RowKit Go.Proofs.YtephblclhojffaaW.PrintWords Go.Proofs.YtephblclhojffaaW.PrintLast Go.Proofs.YtephblclhojffaaW.PrintMore
open Go.ChangeShapes Go.WideShapes Go.ChangeAt
set_option linter.unusedVariables false
set_option linter.unusedSimpArgs false
section
variable {H : Type}
theorem small_bulk {ds : List (DataW H)} (h : Rows.uptoSmall H ds = true) : Rows.uptoBulkAll ds ≤ 1048576 := of_decide_eq_true h
theorem bulk_mem {x : DataW H} : ∀ {l : List (DataW H)}, x ∈ l → Rows.uptoBulk x ≤ Rows.uptoBulkAll l
  | [], h => by simp at h
  | y :: r, h => by
    have ih := fun h => bulk_mem (x := x) (l := r) h
    simp only [Rows.uptoBulkAll]
    rcases List.mem_cons.1 h with rfl | h
    · omega
    · have := ih h; omega
theorem bulk_all {α : Type} {Q : α → DataW H → Prop} {ys : List α} {x : DataW H} (h : AllQ Q ys x) {y : α} (hy : y ∈ ys) : ∃ z, Q y z ∧ Rows.uptoBulk z ≤ Rows.uptoBulk x := by
  rcases h with ⟨rfl, _⟩ | ⟨ds, rest, rfl, hl, _, hq⟩
  · simp at hy
  · obtain ⟨i, hi, rfl⟩ := List.getElem_of_mem hy
    refine ⟨ds[i]'(by omega), hq i _ _ (List.getElem?_eq_getElem hi) (List.getElem?_eq_getElem (by omega)), ?_⟩
    have := bulk_mem (List.getElem_mem (l := ds) (n := i) (by omega))
    simp only [Rows.uptoBulk]
    omega
theorem str_size (s : ByteArray) : s.data.toList.length = s.size := by rw [Array.length_toList]; rfl
theorem i64_le {n : Int} (h : (Lit.int .i64 n).wf = true) : n ≤ 9223372036854775807 := by
  have h' : IntKind.i64.min ≤ n ∧ n ≤ IntKind.i64.max := by simpa [Lit.wf] using h
  have e : IntKind.i64.max = 9223372036854775807 := by decide
  omega
theorem op_ok {y : S24} {x : DataW H} (h : Q24 y x) (hb : Rows.uptoBulk x ≤ 1048576) : OpOk y := by
  obtain ⟨x4, h0, h3, h1, h2, h4, rfl⟩ := h
  simp only [Rows.uptoBulk, Rows.uptoBulkAll, str_size] at hb
  exact ⟨by omega, by omega, i64_le h3⟩
theorem ops_ok {ys : List S24} {x : DataW H} (h : AllQ Q24 ys x) (hb : Rows.uptoBulk x ≤ 1048576) : ∀ o ∈ ys, OpOk o := fun o ho => by
  obtain ⟨z, hz, hb2⟩ := bulk_all h ho
  exact op_ok hz (by omega)
end
end Go.Proofs.Ytephblclhojffaa.A
