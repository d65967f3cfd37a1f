/- What several walks share: the state at a loop's head, a step in a box, a disk's names. -/
import Derived.Test.YtephblclhojffaaAx0
import Derived.Test.YtephblclhojffaaHAt
namespace Go.Proofs.Ytephblclhojffaa.A
open Go.RowKit Go.Proofs.YtephblclhojffaaW.PrintWords Go.Proofs.YtephblclhojffaaW.PrintLast Go.Proofs.YtephblclhojffaaW.PrintMore
open Go.Maps
set_option linter.unusedVariables false
set_option linter.unusedSimpArgs false

theorem rising_at {d : Dir} (h : Rising d) (k : Nat) (hk : k + 1 < d.length) : d[k].1 < d[k + 1].1 := by
  have := List.pairwise_iff_getElem.1 h k (k + 1) (by omega) hk (by omega)
  exact this
theorem step_pre {M : DM} {k : Nat} {o : S24} (hI : Inv M k (k * 1048576)) (ho : OpOk o) : Inv (stepF M o).1 (k + 1) ((k + 1) * 1048576) := by
  have h := inv_does hI (kindF o.f0) o.f1.data.toList o.f2.data.toList o.f3 ho.n3 o.f4
  refine h.mono (Nat.le_refl _) ?_
  have h1 := ho.s2
  have h2 : o.f2.data.toList.length = o.f2.size := by rw [Array.length_toList]; rfl
  rw [h2, Nat.succ_mul]
  omega
/-- What holds at the loop's head. -/
def StepR (w0 wr : World) (db : Nat) (k : Nat) : Prop := ∃ M, At true w0.heap.size w0 wr db M ∧ Inv M k (k * 1048576)
theorem names_bs (M : DM) (k : Nat) (hk : k < M.dir.length) : (namesF M)[k]'(by simpa [namesF] using hk) = bsS M.dir[k].1 := by simp [namesF, bsS]
theorem names_at' (M : DM) (k : Nat) (hk : k < M.dir.length) : rdOf ByteArray.empty (namesF M) (k : Int) = bsS (M.dir.getD k ([], 0)).1 := by
  rw [names_at M k hk]; simp [hk]
/-- What the names of a disk are. -/
theorem names_plain {M : DM} {n : Nat} (hI : Inv M n (n * 1048576)) (hR : Rising M.dir) (hn : n ≤ 301) : ∀ j, j < M.dir.length →
    Fits M 1099511627776 ∧ (M.dir.getD j ([], 0)).1.length ≤ 12 ∧ rightB (M.dir.getD j ([], 0)).1 = true ∧ readF M (M.dir.getD j ([], 0)).1 = ((M.files.getD (M.dir.getD j ([], 0)).2 ([], 0)).1, 0) ∧
      heldTo M (j + 1) = heldTo M j + ((M.files.getD (M.dir.getD j ([], 0)).2 ([], 0)).1.length) ∧ heldTo M (j + 1) ≤ 1000000000000 ∧ ∀ i, i + 1 = j → (M.dir.getD i ([], 0)).1 < (M.dir.getD j ([], 0)).1 := by
  intro j hj
  have hfit : Fits M 1099511627776 := fun i => Nat.le_trans (hI.fits i) (by omega)
  have e : M.dir.getD j ([], 0) = M.dir[j] := by simp [hj]
  rw [e]
  have hm := List.getElem_mem hj
  have hr := hI.dirP.right _ hm
  have hlen : M.dir[j].1.length ≤ 12 := by unfold rightB at hr; simp at hr; omega
  have hg : dGet M.dir M.dir[j].1 = some M.dir[j].2 := dGet_of_mem hR hm
  refine ⟨hfit, hlen, hr, ?_, heldTo_succ M j hj, ?_, ?_⟩
  · unfold readF; rw [hg]
  · have h1 := heldTo_le M _ hI.fits (j + 1)
    have h2 := hI.dirL
    have h3 : (j + 1) * (n * 1048576) ≤ 301 * (301 * 1048576) := Nat.mul_le_mul (by omega) (by omega)
    omega
  · intro i hi
    subst hi
    have e2 : M.dir.getD i ([], 0) = M.dir[i] := by simp [show i < M.dir.length by omega]
    rw [e2]
    exact rising_at hR i hj
/-- The five cells of a step that lies in a box. -/
def BoxAt (w : World) (b : Nat) (o : S24) (A : Option Addr) (c : Nat) : Prop := w.heap[b]? = some (.cells #[.int .i64 o.f0, .string o.f1, .string o.f2, .int .i64 o.f3, .slice A o.f4.length c] 24 (0, 0))
theorem BoxAt.below {w w' : World} {b : Nat} {o : S24} {A : Option Addr} {c : Nat} (h : BoxAt w b o A c) (hb : Below w.heap.size w w') : BoxAt w' b o A c := (hb.block b (List.getElem?_eq_some_iff.1 (by simpa [BoxAt] using h)).1).trans h
theorem C_box {w : World} {v : Obj} {A : Option Addr} {m : Nat} {l : List Int} (h : Kd.C (Kd.int .i64) w A m l) : Kd.C (Kd.int .i64) (w.alloc v) A m l := Kd.C_below h ((Below.refl w.heap.size w).alloc (Nat.le_refl _) v)
end Go.Proofs.Ytephblclhojffaa.A
