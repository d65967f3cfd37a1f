/- The reader of words: next, must; on every reader. -/
import Derived.Test.YtglcajijmkianaaDoorAx0
import Derived.Test.YtglcajijmkianaaDoorHIdx
namespace Go.Proofs.YtglcajijmkianaaDoor.A
open Go.RowKit Go.Proofs.YtglcajijmkianaaDoorW.PrintWords Go.Proofs.YtglcajijmkianaaDoorW.PrintLast Go.Proofs.YtglcajijmkianaaDoorW.PrintMore
set_option linter.unusedVariables false
set_option linter.unusedSimpArgs false

/-- Block g is a reader: the words that are left (they lie in w0), and whether something is wrong. -/
def IsRd (w0 W : World) (g : Nat) (l : List ByteArray) (bad : Bool) : Prop :=
  ∃ A c, W.heap[g]? = some (.cells #[.slice A l.length c, .bool bad] 61 (0, 0)) ∧ w0.heap.size ≤ g ∧ Kd.C Kd.string w0 A l.length l ∧ l.length ≤ c ∧ l.length ≤ 4294967296 ∧ ∀ x ∈ l, x.size ≤ 281474976710656
theorem IsRd.below {w0 W W1 : World} {g : Nat} {l : List ByteArray} {bad : Bool} (h : IsRd w0 W g l bad) (hb : Below W.heap.size W W1) : IsRd w0 W1 g l bad := by
  obtain ⟨A, c, hh, hg, hC, hc⟩ := h
  exact ⟨A, c, (hb.block g (blk_lt hh)).trans hh, hg, hC, hc⟩
theorem IsRd.lt {w0 W : World} {g : Nat} {l : List ByteArray} {bad : Bool} (h : IsRd w0 W g l bad) : g < W.heap.size := blk_lt h.choose_spec.choose_spec.1
theorem IsRd.ge {w0 W : World} {g : Nat} {l : List ByteArray} {bad : Bool} (h : IsRd w0 W g l bad) : w0.heap.size ≤ g := h.choose_spec.choose_spec.2.1
/-- What a step of the reader leaves: only block g is turned. -/
def RdStep (w0 w w' : World) (g : Nat) (l : List ByteArray) (bad : Bool) : Prop := IsRd w0 w' g l bad ∧ Below w0.heap.size w0 w' ∧ KeepBut w w' g none
theorem RdStep.then {w0 w w1 w2 : World} {g : Nat} {l l' : List ByteArray} {bad bad' : Bool} (h : RdStep w0 w w1 g l bad) (h2 : RdStep w0 w1 w2 g l' bad') : RdStep w0 w w2 g l' bad' :=
  ⟨h2.1, h2.2.1, KeepBut.trans h.2.2 h2.2.2 (.inl rfl)⟩
theorem RdStep.below {w0 w w1 w2 : World} {g : Nat} {l : List ByteArray} {bad : Bool} (h : RdStep w0 w w1 g l bad) (hb : Below w1.heap.size w1 w2) : RdStep w0 w w2 g l bad :=
  ⟨h.1.below hb, h.2.1.trans (hb.mono h.2.1.size), KeepBut.trans h.2.2 (KeepBut.of_below hb g none) (.inl rfl)⟩
theorem RdStep.blk {w0 w w1 : World} {g b : Nat} {l : List ByteArray} {bad : Bool} {o : Obj} (h : RdStep w0 w w1 g l bad) (hb : w.heap[b]? = some o) (hne : b ≠ g) : w1.heap[b]? = some o := h.2.2.blk hb hne (by simp)
theorem RdStep.globs_le {w0 w w1 : World} {g : Nat} {l : List ByteArray} {bad : Bool} (h : RdStep w0 w w1 g l bad) : w.heap.size ≤ w1.heap.size := h.2.2.1
theorem IsRd.far {w0 W : World} {g : Nat} {l : List ByteArray} {bad : Bool} (h : IsRd w0 W g l bad) {p : Addr} (hne : p.block ≠ g) (u : Value) : IsRd w0 (W.setCell p u) g l bad := by
  obtain ⟨A, c, hh, hg, hC, hc⟩ := h
  exact ⟨A, c, blk_far hh (fun e => hne e.symm) u, hg, hC, hc⟩
theorem RdStep.far {w0 w w1 : World} {g : Nat} {l : List ByteArray} {bad : Bool} (h : RdStep w0 w w1 g l bad) {p : Addr} (hne : p.block ≠ g) (hp : w.heap.size ≤ p.block) (hp0 : w0.heap.size ≤ p.block) (u : Value) : RdStep w0 w (w1.setCell p u) g l bad :=
  ⟨h.1.far hne u, h.2.1.setCell hp0 u, ⟨Nat.le_trans h.2.2.1 (by simp [World.setCell]), fun i hi hig hr => (Below.heap_setCell w1 p u i (by omega)).trans (h.2.2.2 i hi hig hr)⟩⟩
theorem RdStep.start {w0 w : World} {g : Nat} {l : List ByteArray} {bad : Bool} (h : IsRd w0 w g l bad) (hB : Below w0.heap.size w0 w) : RdStep w0 w w g l bad := ⟨h, hB, KeepBut.refl _ _ _⟩

def nextF (l : List ByteArray) (bad : Bool) : ByteArray × List ByteArray × Bool :=
  if bad = true then (⟨#[]⟩, l, true) else match l with | [] => (⟨#[]⟩, [], true) | x :: xs => (x, xs, false)

theorem nextF_size {w0 W : World} {g : Nat} {l : List ByteArray} {bad : Bool} (h : IsRd w0 W g l bad) : (nextF l bad).1.size ≤ 281474976710656 := by
  obtain ⟨A, c, _, _, _, _, _, hs⟩ := h
  unfold nextF
  split
  · exact Nat.zero_le _
  · cases l with
    | nil => exact Nat.zero_le _
    | cons x xs => exact hs x (List.mem_cons_self ..)
theorem set_rd {w0 w : World} {g : Nat} {l : List ByteArray} {bad : Bool} (h : IsRd w0 w g l bad) (hB : Below w0.heap.size w0 w) (b : Bool) : RdStep w0 w (w.setCell ⟨g, 1, none⟩ (.bool b)) g l b := by
  obtain ⟨A, c, hh, hg, hC, hc⟩ := h
  exact ⟨⟨A, c, blk_set hh 1 _, hg, hC, hc⟩, hB.setCell hg _, KeepBut.set_ (KeepBut.refl _ _ _) 1 _⟩

set_option maxRecDepth 100000 in
set_option maxHeartbeats 2000000 in
theorem must.calls (w0 w : World) (g : Nat) (l : List ByteArray) (bad fine : Bool) (hI : IsRd w0 w g l bad) (hB : Below w0.heap.size w0 w) :
    Calls Tryd.prog 57 #[.pointer (some ⟨g, 0, none⟩), .bool fine] w fun e w' => e = .returned (.tuple #[]) ∧ RdStep w0 w w' g l (bad || !fine) := by
  have HS := Aside0.mk (fun b => set_rd hI hB b)
  obtain ⟨A, c, hh, hg, hC, hc⟩ := hI
  have h0 : w.cell? ⟨g, 0, none⟩ = some (.slice A l.length c) := (blk_cell hh 0).trans rfl
  have h1 : w.cell? ⟨g, 1, none⟩ = some (.bool bad) := (blk_cell hh 1).trans rfl
  have hf1 := blk_frozen hh 1
  have hu := Tryd.underlying61
  clear hh hC hB hg hc
  cases bad with
  | true =>
    go_enter Tryd.func57, Tryd.ntmps57
    go_wp2
    go_end0
    exact ⟨rfl, HS.out true⟩
  | false =>
    cases fine with
    | true =>
      go_enter Tryd.func57, Tryd.ntmps57
      go_wp2
      go_end0
      exact ⟨rfl, HS.out false⟩
    | false =>
      go_enter Tryd.func57, Tryd.ntmps57
      go_wp2
      go_end0
      exact ⟨rfl, HS.out true⟩

set_option maxRecDepth 100000 in
set_option maxHeartbeats 2000000 in
theorem next.calls (w0 w : World) (g : Nat) (l : List ByteArray) (bad : Bool) (hI : IsRd w0 w g l bad) (hB : Below w0.heap.size w0 w) :
    Calls Tryd.prog 55 #[.pointer (some ⟨g, 0, none⟩)] w fun e w' => e = .returned (.string (nextF l bad).1) ∧ RdStep w0 w w' g (nextF l bad).2.1 (nextF l bad).2.2 := by
  have HS := Aside0.mk (fun b => set_rd hI hB b)
  obtain ⟨A, c, hh, hg, hC, hc, hlen, hsz⟩ := hI
  have h0 : w.cell? ⟨g, 0, none⟩ = some (.slice A l.length c) := (blk_cell hh 0).trans rfl
  have h1 : w.cell? ⟨g, 1, none⟩ = some (.bool bad) := (blk_cell hh 1).trans rfl
  have hf1 := blk_frozen hh 1
  have hf0 := blk_frozen hh 0
  have hu := Tryd.underlying61
  cases bad with
  | true =>
    clear hh hC hB hg hc hlen hsz
    go_enter Tryd.func55, Tryd.ntmps55
    go_wp2
    go_ret
    exact ⟨rfl, HS.out true⟩
  | false =>
    cases l with
    | nil =>
      clear hh hC hB hg hc hlen hsz
      go_enter Tryd.func55, Tryd.ntmps55
      go_wp2
      go_ret
      exact ⟨rfl, HS.out true⟩
    | cons x xs =>
      obtain ⟨ad, cs, e, _, hK, hcell⟩ := Kd.C_get hC ByteArray.empty 0 (by omega) (by simp)
      cases e
      have hx : cs = [.string x] := hK
      subst hx
      have hw : w.cell? ad = some (.string x) := by
        have := pw_cell_below hB (hcell 0 _ rfl)
        simpa [Addr.add] using this
      have hl : (((x :: xs).length : Int) == 0) = false := by simp; omega
      have hl2 : (0 : Int) < ((x :: xs).length : Int) := by simp
      have HH := Aside0.mk hh
      have HC := Aside0.mk hC
      have HB := Aside0.mk hB
      have HG := Aside0.mk hg
      have HSZ := Aside0.mk hsz
      clear hh hC hB hg hcell hK hsz
      generalize hn : (x :: xs).length = n at h0 hl hl2 hc hlen
      have HN := Aside0.mk hn
      clear hn
      go_enter Tryd.func55, Tryd.ntmps55
      go_wp2_with fail
      all_goals
        go_ret
        refine ⟨rfl, ?_, HB.out.setCell HG.out _, KeepBut.set_ (KeepBut.refl _ _ _) 0 _⟩
        have hD := Kd.C_drop HC.out (m := 1) (c := c) (by simp) (by rw [HN.out]; exact hc)
        have hset := blk_set HH.out 0
        have hN := HN.out
        subst hN
      · have hc1 : c = 1 := by assumption
        rw [if_pos hc1] at hD
        exact ⟨some ad, 0, hset _, HG.out, hD, by simp only [List.length_cons] at hc; show xs.length ≤ _; omega, by simp only [List.length_cons] at hlen; show xs.length ≤ _; omega, fun y hy => HSZ.out y (List.mem_cons_of_mem _ hy)⟩
      · have hc1 : ¬ c = 1 := by assumption
        rw [if_neg hc1] at hD
        exact ⟨some (ad.add 1), c - 1, by rw [show ad.add 1 = ⟨ad.block, ad.off + 1, none⟩ from by simp [Addr.add]]; exact hset _, HG.out, hD, by simp only [List.length_cons] at hc; show xs.length ≤ _; omega, by simp only [List.length_cons] at hlen; show xs.length ≤ _; omega, fun y hy => HSZ.out y (List.mem_cons_of_mem _ hy)⟩
end Go.Proofs.YtglcajijmkianaaDoor.A
