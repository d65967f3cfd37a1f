/- A range over an iterator whose values bear something in memory: the iterator's contract (SeqR), the caller's law. · skip.behind: the nodes of the list, one by one. · skip.own: a deed in new memory. · skip.given: the deeds of the list, one by one, each in new memory. · slices.Collect of a list's All: the deeds in order, each in new memory. -/
import Derived.Test.YtojcbknclfamhaaGreatDoorKpAx0
import Derived.RangeFuncNested
import Derived.RangeFuncWrites
import Derived.Shelf.Abstract
import Derived.Maps.OwnIn
import Derived.Test.YtojcbknclfamhaaGreatDoorKpHSkA
import Derived.RangeFuncCalls
import Derived.RangeFuncLeaves
import Derived.Shelf.RegionOpen
import Derived.WalkKit
import Derived.OwnWalkIn
import Derived.TacticsInMore
import Derived.LoopNIn
import Derived.LoopIn
import Derived.Test.YtojcbknclfamhaaGreatDoorKpHSkB
namespace Go.Proofs.YtojcbknclfamhaaGreatDoor.A
open Go.RowKit Go.Proofs.YtojcbknclfamhaaGreatDoorW.PrintWords Go.Proofs.YtojcbknclfamhaaGreatDoorW.PrintLast Go.Proofs.YtojcbknclfamhaaGreatDoorW.PrintMore
set_option linter.unusedVariables false
set_option linter.unusedSimpArgs false
structure KeepsBox (T : TypeId) (B : Nat) (W W' : World) : Prop where
  size : W.heap.size ≤ W'.heap.size
  same : ∀ (k : Nat) (o : Obj), B ≤ k → W.heap[k]? = some o → (o.isCells = false ∨ ∃ cs fr, o = .cells cs T fr) → W'.heap[k]? = some o
theorem KeepsBox.refl (T : TypeId) (B : Nat) (W : World) : KeepsBox T B W W := ⟨Nat.le_refl _, fun _ _ _ h _ => h⟩
theorem KeepsBox.trans {T : TypeId} {B : Nat} {X Y Z : World} (h : KeepsBox T B X Y) (k : KeepsBox T B Y Z) : KeepsBox T B X Z := ⟨Nat.le_trans h.size k.size, fun i o hB hi ho => k.same i o hB (h.same i o hB hi ho) ho⟩
theorem KeepsBox.mono {T : TypeId} {B B' : Nat} {W W' : World} (h : KeepsBox T B W W') (hB : B ≤ B') : KeepsBox T B' W W' := ⟨h.size, fun k o hk => h.same k o (by omega)⟩
theorem KeepsBox.of_grownBy {T : TypeId} {B : Nat} {W W' : World} {row : Option Nat} (hg : W.grownBy W' row) (hrow : ∀ j, row = some j → j < B) : KeepsBox T B W W' :=
  ⟨hg.size, fun k o hB hk _ => (hg.block k (Array.getElem?_eq_some_iff.1 hk).1 (fun e => by have := hrow k e.symm; omega)).trans hk⟩
theorem KeepsBox.new {T : TypeId} {B : Nat} {W W' : World} (hb : Below W.heap.size W W') : KeepsBox T B W W' := ⟨hb.size, fun k o _ hk _ => (hb.block k (Array.getElem?_eq_some_iff.1 hk).1).trans hk⟩
theorem KeepsBox.turn {T : TypeId} {B : Nat} {W W' : World} {row : Option Nat} (hg : W.grownBy W' row) (hrow : ∀ j, row = some j → ∃ cs t fr, W.heap[j]? = some (.cells cs t fr) ∧ t ≠ T) : KeepsBox T B W W' :=
  ⟨hg.size, fun k o hB hk ho => (hg.block k (Array.getElem?_eq_some_iff.1 hk).1 (fun e => by
    obtain ⟨cs, t, fr, h1, h2⟩ := hrow k e.symm
    rw [hk] at h1
    cases h1
    rcases ho with ho | ⟨cs', fr', ho⟩
    · cases ho
    · cases ho; exact h2 rfl)).trans hk⟩
def SeqR {α : Type} (F : Fence) (n : Nat) (P : Program) (g : Nat) (lb : Array Value) (enc : α → Value) (T : TypeId) (n₀ : Nat) (Rx : World → World → α → Prop) (S : List α → Prop) (N : Nat) (w : World) : Prop :=
  ∀ (l : Nat) (J : List α → World → Prop) (W : World), Below w.heap.size w W → OwnFrom W.heap.size J →
    (∀ pre x W0 W1, J pre W0 → Below W0.heap.size W0 W1 → Rx W0 W1 x → pre.length < N → YieldAt F (n - 1) P l #[enc x] W1 fun e W' => e = .returned (.bool true) ∧ J (pre ++ [x]) W' ∧ Below n₀ W1 W' ∧ KeepsBox T W.heap.size W1 W') →
    J [] W →
    CallsIn F n P g (#[.func (.yield l) #[] #[]] ++ lb) W fun e W' => (∃ v, e = .returned v) ∧ ∃ xs, S xs ∧ J xs W'
theorem ownFrom_mono {β : Type} {B B' : Nat} {I : β → World → Prop} (h : OwnFrom B I) (hB : B ≤ B') : OwnFrom B' I := fun s W W' row hs hg hr => h s W W' row hs hg (fun r e => ⟨Nat.le_trans hB (hr r e).1, (hr r e).2⟩)
theorem ownFrom_new {β : Type} {B : Nat} {I : β → World → Prop} (h : OwnFrom B I) {s : β} {W W' : World} (hs : I s W) (hb : Below W.heap.size W W') : I s W' :=
  h s W W' none hs ⟨hb.os, hb.tape, hb.output, hb.size, fun k hk _ => hb.block k hk⟩ (fun r e => by cases e)
theorem below_putObj {B : Nat} (W : World) (l : Nat) (o : Obj) (h : B ≤ l) (hs : l < W.heap.size) : Below B W (W.putObj l o) :=
  (Below.refl B W).grown (grownBy_putObj' W l o) (by omega) (fun k e => by cases e; exact h)
theorem yield_any {m m' : Nat} {P : Program} {l q : Nat} {f : FuncId} {tmps : Array Value} {assign body : Code} {w : World} {R : Ending → World → Prop} (h : RoundIn Fence.wide m P l f tmps assign body w R) : RoundIn (Fence.wide.inRound q) m' P l f tmps assign body w R :=
  ⟨trivial, fun c cs _ => h.2 c cs (room_wide _)⟩
theorem wpIn_range_rel {F : Fence} {n : Nat} {P : Program} {α : Type} {g : Operand} {p : Tmp} {assign body : Code} {Q : Exit → Act → World → Prop} {a : Act} {w : World}
    (hro : F.round = none) (h1 : 1 ≤ n) {gf : Nat} {lb : Array Value} (hg : a.eval g = .func (.func gf) #[] lb) (hFg : F.fn gf) (eg : ∀ args w, (callFunc gf args).run P w = .ok (.enter gf args) w)
    {enc : α → Value} {T : TypeId} {n₀ : Nat} {Rx : World → World → α → Prop} {S : List α → Prop} {N : Nat} {w0 : World} (hseq : SeqR F (n - 1) P gf lb enc T n₀ Rx S N w0)
    (hn0 : n₀ ≤ w.heap.size) (hb0 : Below w0.heap.size w0 w)
    (I : List α → World → Prop) (hI : OwnFrom w.heap.size I) (h0 : I [] w)
    (Ax : List α → α → Act → World → Prop) (hAx : ∀ (pre : List α) (x : α) (a' : Act) (W : World) (l : Nat) (o o' : Obj), w.heap.size ≤ l → W.heap[l]? = some o → o.isCells = false → Ax pre x a' W → Ax pre x a' (W.putObj l o'))
    (hassign : ∀ (l : Nat) (pre : List α) (x : α) (W0 W1 : World) (K : Act → World → Prop), I pre W0 → Below W0.heap.size W0 W1 → w.heap.size ≤ W0.heap.size → Rx W0 W1 x → pre.length < N → (∀ a' W', KeepsBox T w.heap.size W1 W' → Below n₀ W1 W' → Ax pre x a' W' → K a' W') →
      assign.wpIn (F.inRound l) (n - 1 - 1) P (Exit.then K (fun _ _ _ => False)) { tmps := (#[p].zip #[enc x]).foldl (fun t (p, v) => t.setIfInBounds p v) a.tmps, defers := [] } W1)
    (hbody : ∀ (l : Nat) (pre : List α) (x : α) (a' : Act) (W : World), w.heap.size ≤ l → w.heap.size ≤ W.heap.size → pre.length < N → Ax pre x a' W → body.wpIn (F.inRound l) (n - 1 - 1) P (fun e _ W' => e = .normal ∧ KeepsBox T w.heap.size W W' ∧ Below n₀ W W' ∧ I (pre ++ [x]) W') a' W)
    (hdone : ∀ (D : Nat) (xs : List α) (W : World), w.heap.size ≤ D → S xs → I xs W → W.heap[D]? = some (.deferred (some [])) → Q .normal { a with defers := { target := .collected D, args := #[] } :: a.defers } W) :
    (Code.rangeFunc g #[p] assign body).wpIn F n P Q a w := by
  refine wpIn_rangeFunc fun fn hfn => ?_
  rw [hro]
  have hz : (w.alloc (.deferred (some []))).heap.size = w.heap.size + 1 := World.size_alloc _ _
  obtain ⟨rc, hrc⟩ : ∃ rc : LoopState → Loop, rc = fun st => { state := st, pending := none, fn, tmps := a.tmps, params := #[p], assign, body, defers := w.heap.size } := ⟨_, rfl⟩
  have henter := run_enterLoop_outer (P := P) (w := w) fn a.tmps #[p] assign body
  rw [show ({ state := .ready, pending := none, fn, tmps := a.tmps, params := #[p], assign, body, defers := w.heap.size } : Loop) = rc .ready by rw [hrc]] at henter
  have hL : ((w.alloc (.deferred (some []))).alloc (.loop (rc .ready))).heap[w.heap.size + 1]? = some (.loop (rc .ready)) := hz ▸ World.alloc_heap_new (w.alloc (.deferred (some []))) (.loop (rc .ready))
  have hK : ((w.alloc (.deferred (some []))).alloc (.loop (rc .ready))).heap[w.heap.size]? = some (.deferred (some [])) := (Below.heap_alloc _ _ _ (by omega)).trans (World.alloc_heap_new w _)
  have hst : I [] ((w.alloc (.deferred (some []))).alloc (.loop (rc .ready))) := hI.alloc _ (hI.alloc _ h0)
  have hnew : Below w.heap.size w ((w.alloc (.deferred (some []))).alloc (.loop (rc .ready))) := ((Below.refl _ w).alloc (Nat.le_refl _) _).alloc (by omega) _
  generalize (w.alloc (.deferred (some []))).alloc (.loop (rc .ready)) = W1 at *
  refine ⟨w.heap.size + 1, [{ target := .collected w.heap.size, args := #[] }], W1, { target := .fn (.func gf) lb, args := #[.func (.yield (w.heap.size + 1)) #[] #[]] }, W1, gf, #[.func (.yield (w.heap.size + 1)) #[] #[]] ++ lb, W1, henter, ?_, ?_, ?_, fun _ => h1, ?_⟩
  · simp only [resolve, hg]; simp [go_sem]
  · intro f' hf'
    simp [Target.leads] at hf'
    exact hf' ▸ hFg
  · simp [invoke, go_sem, eg]
  have hW1 : w.heap.size ≤ W1.heap.size := hnew.size
  have hltL : w.heap.size + 1 < W1.heap.size := (Array.getElem?_eq_some_iff.1 hL).1
  refine (hseq (w.heap.size + 1) (fun pre W => I pre W ∧ W.heap[w.heap.size + 1]? = some (.loop (rc .ready)) ∧ W.heap[w.heap.size]? = some (.deferred (some []))) W1 (hb0.trans (hnew.mono hb0.size)) ?_ ?_ ⟨hst, hL, hK⟩).mono ?_
  · -- the book-keeping abides the iterator
    rintro pre A B row ⟨i1, i2, i3⟩ hgr hr
    have hlt := (Array.getElem?_eq_some_iff.1 hL).1
    refine ⟨hI pre A B row i1 hgr fun r e => ⟨Nat.le_trans hW1 (hr r e).1, (hr r e).2⟩, (hgr.block _ (Array.getElem?_eq_some_iff.1 i2).1 ?_).trans i2, (hgr.block _ (Array.getElem?_eq_some_iff.1 i3).1 ?_).trans i3⟩
    · intro e; have := (hr _ e.symm).1; omega
    · intro e; have := (hr _ e.symm).1; omega
  · -- one round
    rintro pre x W0 W ⟨i1, l2, l3⟩ hbw hx hlen
    have hlt0 := (Array.getElem?_eq_some_iff.1 l2).1
    have i2 := (hbw.block _ hlt0).trans l2
    have i3 := (hbw.block _ (Array.getElem?_eq_some_iff.1 l3).1).trans l3
    have hy := run_yield (P := P) (args := #[enc x]) i2 (by rw [hrc]; rfl)
    rw [show (rc .ready).fn = fn by rw [hrc], show (rc .ready).assign = assign by rw [hrc], show (rc .ready).body = body by rw [hrc], show (rc .ready).params = #[p] by rw [hrc], show (rc .ready).tmps = a.tmps by rw [hrc]] at hy
    refine ⟨fn, _, assign, body, hy, roundIn_of_wpIn hfn ?_⟩
    refine hassign _ pre x W0 W _ i1 hbw (by omega) hx hlen fun a' Wa ka kb hax => ?_
    have h2 := ka.same _ _ (by omega) i2 (.inl rfl)
    have h3 := ka.same _ _ (Nat.le_refl _) i3 (.inl rfl)
    have hlt := (Array.getElem?_eq_some_iff.1 h2).1
    refine ⟨_, run_beginRound h2 (by rw [hrc]), ?_⟩
    rw [show ({ rc .ready with state := .busy } : Loop) = rc .busy by rw [hrc]]
    have j2 : (Wa.putObj (w.heap.size + 1) (.loop (rc .busy))).heap[w.heap.size + 1]? = some (.loop (rc .busy)) := World.putObj_heap_same hlt
    have j3 : (Wa.putObj (w.heap.size + 1) (.loop (rc .busy))).heap[w.heap.size]? = some (.deferred (some [])) := (World.putObj_heap_other (by omega)).trans h3
    refine wpIn_mono (hbody _ pre x a' _ (by omega) (by rw [World.putObj_size]; omega) hlen (hAx _ _ _ _ _ _ _ (by omega) h2 rfl hax)) ?_
    rintro e a3 W3 ⟨rfl, k1, k2, k3⟩
    have m2 := k1.same _ _ (by omega) j2 (.inl rfl)
    have m3 := k1.same _ _ (Nat.le_refl _) j3 (.inl rfl)
    have hend := run_endRound (P := P) none m2
    rw [show ({ rc .busy with state := if (none : Option Code).isNone then .ready else .done, pending := none } : Loop) = rc .ready by rw [hrc]; rfl] at hend
    have hlt3 := (Array.getElem?_eq_some_iff.1 m2).1
    exact ⟨_, _, hend, rfl, ⟨hI.putObj _ k3 (by omega) m2 rfl, World.putObj_heap_same hlt3, (World.putObj_heap_other (by omega)).trans m3⟩, ((kb.trans (below_putObj Wa _ _ (by omega) hlt)).trans k2).trans (below_putObj W3 _ _ (by omega) hlt3), (((ka.mono hW1).trans (KeepsBox.of_grownBy (grownBy_putObj' Wa _ _) (fun j e => by cases e; exact hltL))).trans (k1.mono hW1)).trans (KeepsBox.of_grownBy (grownBy_putObj' W3 _ _) (fun j e => by cases e; exact hltL))⟩
  · -- behind the iterator
    rintro e W2 ⟨⟨v, rfl⟩, xs, hS, i1, i2, i3⟩
    have hend := run_endLoop (P := P) i2 (by rw [hrc]; simp)
    rw [show (rc .ready).pending = none by rw [hrc]] at hend
    exact ⟨none, _, hend, hdone _ xs _ (Nat.le_refl _) hS (hI.putObj _ i1 (by omega) i2 rfl) ((World.putObj_heap_other (by omega)).trans i3)⟩
theorem S_append_in {F : Fence} {nF : Nat} {P : Program} {ops : Array Oper} {rest : List Oper} {o : Oper} {a : Act} {Q : Exit → Act → World → Prop} {α : Type} (d : Kd α) {W : World} (base : Nat) (hgd : o.guard = none) (s x : Operand) (t e : TypeId) (z : Value) (bytes : Nat)
    (ho : o.op = .call { callee := .builtin .append, args := #[s, x], argTypes := #[t, t] })
    (ht : P.underlying t = some (.slice e)) (hinfo : (P.info? e).map (fun i => (i.zero, i.size, i.bytes)) = some (some z, d.sz, bytes)) (hz : z.cells.size = d.sz) (hs0 : 0 < d.sz) (hb0 : 0 < bytes)
    (v : Value) (xs : List α) (p : α) (cs : List Value) (ok okp : Nat → Prop) (hs : a.eval s = v) (hx : a.eval x = .slice (some ⟨W.heap.size, 0, none⟩) 1 1) (hp : d.M W base okp p cs) (hokp : ∀ k, okp k → ok k ∧ some k ≠ v.ownBlock) (hfresh : ∀ k, W.heap.size ≤ k → ok k)
    (HO : Kd.S d e W base (fun k => ok k ∧ ¬ okp k) v xs) (hbase : base ≤ W.heap.size) (hl : (xs.length + 1) * bytes ≤ 140737488355328)
    (h : ∀ v1 w1, Kd.S d e w1 base ok v1 (xs ++ [p]) → W.grownBy w1 v.ownBlock → (v1.ownBlock = v.ownBlock ∨ ∃ b, v1.ownBlock = some b ∧ W.heap.size ≤ b) → wpListIn F nF P ops Q rest (a.put o.dst v1) w1) :
    wpListIn F nF P ops Q (o :: rest) a (W.alloc (.cells cs.toArray e)) := by
  obtain ⟨f, hf, hR⟩ := Kd.S_tag HO xs.length okp (fun _ hk h2 => h2.2 hk)
  have hp2 : (Kd.tag f d).M W base okp (p, xs.length) cs := d.M_mono (fun k hk => ⟨hk, hf k hk⟩) hp
  obtain ⟨h0, inner, hown, hr⟩ := Kd.R_mono hR (ok' := ok) (fun _ hk => hk.1)
  obtain ⟨i0, hi, hzz⟩ := Option.map_eq_some_iff.1 hinfo
  simp only [Prod.mk.injEq] at hzz
  obtain ⟨hz0, hz1, hz2⟩ := hzz
  have hn : xs.zipIdx.length = xs.length := List.length_zipIdx
  have hlen : xs.length + 1 ≤ 140737488355328 := Nat.le_trans (Nat.le_mul_of_pos_right _ hb0) hl
  have hcs := d.K_len (d.K_of_M hp)
  refine wpListIn_append_own_at (W.alloc (.cells cs.toArray e)) hgd s x t ho base e i0 z d.sz bytes ht hi hz0 hz1 hz2 hz hs0 v xs.zipIdx.length inner hs (hown.alloc _) ⟨W.heap.size, 0, none⟩ 1 1 cs hx (by rw [hcs]; simp)
    (by simpa using World.news_of_block (cs := cs.toArray) (t := e) (fr := (0, 0)) (heap_alloc_new W (.cells cs.toArray e))) (d.K_one (d.K_of_M hp)) (by rw [hn]; simp only [maxLen]; omega) (by rw [hn]; exact hl) (by simp; omega) ?_
  intro v1 w1 hown1 hg _ hat
  have hgW : W.grownBy w1 v.ownBlock := World.grownBy.trans (World.grownBy_alloc W _ _) hg
  have hat1 : v1.ownBlock = v.ownBlock ∨ ∃ b, v1.ownBlock = some b ∧ W.heap.size ≤ b := by
    rcases hat with hat | hat
    · exact .inl hat
    · exact .inr ⟨_, hat, by simp⟩
  have := Kd.R_appended (d := Kd.tag f d) h0 hr hp2 hokp hfresh hown1 hgW hat1
  rw [← Kd.zip_snoc] at this
  exact h v1 w1 ⟨f, this⟩ hgW hat1
end Go.Proofs.YtojcbknclfamhaaGreatDoor.A
namespace Go.Proofs.YtojcbknclfamhaaGreatDoor.A
open Go.RowKit Go.Proofs.YtojcbknclfamhaaGreatDoorW.PrintWords Go.Proofs.YtojcbknclfamhaaGreatDoorW.PrintLast Go.Proofs.YtojcbknclfamhaaGreatDoorW.PrintMore
open Go.Shelf
set_option linter.unusedVariables false
set_option linter.unusedSimpArgs false
attribute [local go_sem] Oper.semAt_some
def leftN (l : List Nd) (p : Value) : Nat := match p with
  | .pointer (some a) => (l.dropWhile (fun m => m.b != a.block)).length
  | _ => 0
theorem leftN_none (l : List Nd) : leftN l (.pointer none) = 0 := rfl
theorem leftN_at (pre : List Nd) (m : Nd) (rest : List Nd) (h : ((pre ++ m :: rest).map (fun n => n.b)).Nodup) : leftN (pre ++ m :: rest) (.pointer (some ⟨m.b, 0, none⟩)) = rest.length + 1 := by
  unfold leftN
  simp only
  induction pre with
  | nil => simp
  | cons x pre ih =>
    simp only [List.cons_append, List.map_cons, List.nodup_cons] at h
    rw [List.cons_append, List.dropWhile_cons, if_pos ?_]
    · exact ih h.2
    · have : x.b ≠ m.b := fun e => h.1 (by rw [e]; exact List.mem_map.2 ⟨m, by simp, rfl⟩)
      simpa using this
theorem Chain.node {W : World} {base : Nat} : ∀ {pre : List Nd} {m : Nd} {rest : List Nd}, Chain W base (pre ++ m :: rest) → (∃ V, W.heap[m.b]? = some (.cells (nodeCells m V rest) 105 (0, 0)) ∧ Kd.R k46 46 W base (fun _ => True) V m.d.f1) ∧ base ≤ m.b ∧ 0 ≤ m.h ∧ m.h ≤ 8 ∧ 0 < m.d.f1.length
  | [], m, rest, h => ⟨h.1, h.2.1, h.2.2.1, h.2.2.2.1, h.2.2.2.2.1⟩
  | x :: pre, m, rest, h => Chain.node (pre := pre) h.2.2.2.2.2
theorem node_next {W : World} {base : Nat} {pre : List Nd} {m : Nd} {rest : List Nd} (h : Chain W base (pre ++ m :: rest)) (hm : 1 ≤ m.h) : W.cell? ⟨m.b, 2, none⟩ = some (.pointer (nextAt 0 rest)) := by
  obtain ⟨⟨V, hV, -⟩, -⟩ := h.node
  refine cells_at2 hV 2 _ ?_
  unfold nodeCells
  rw [List.getElem?_toArray, List.getElem?_append_right (by simp)]
  simp only [List.length_cons, List.length_nil]
  rw [show 2 - (0 + 1 + 1) = 0 from rfl, ptrs_at _ _ 0 (by omega), if_pos (by omega)]
theorem nextAt_cons0 (m : Nd) (rest : List Nd) (hm : 1 ≤ m.h) : nextAt 0 (m :: rest) = some ⟨m.b, 0, none⟩ := by
  unfold nextAt
  rw [List.find?_cons_of_pos (by simpa using Nat.lt_of_lt_of_le Nat.zero_lt_one hm)]
  rfl
set_option maxRecDepth 100000 in
set_option maxHeartbeats 4000000 in
theorem behind_seq (T : TypeId) (n : Nat) (hn : 1 ≤ n) (w0 wS : World) (lb : Nat) (l : List Nd) (seed cnt bytes : Int) (hS : Sk w0 wS lb l seed cnt bytes) (Bn : Nat) (w : World) (hw : Below wS.heap.size wS w) (hBn : w.heap[Bn]? = some (.cells #[.pointer (some ⟨lb, 0, none⟩)] 102 (0, 0))) :
    SeqR Fence.wide n Tryz.prog 115 #[.pointer (some ⟨Bn, 0, none⟩)] (fun m : Nd => .pointer (some ⟨m.b, 0, none⟩)) T wS.heap.size (fun _ _ m => m ∈ l) (fun xs => xs = l) l.length w := by
  intro l1 J W hW hJ hY h0
  have hu := Tryz.underlying105
  have hu2 := Tryz.underlying102
  have hu5 := Tryz.underlying103
  have hz0 : Below wS.heap.size wS W := hw.trans (hW.mono hw.size)
  have hbn := (hW.block _ (Array.getElem?_eq_some_iff.1 hBn).1).trans hBn
  have c1 := blk_cell hbn 0
  have s2 : W.cell? ⟨lb, 2, none⟩ = some (.pointer (nextAt 0 l)) := by
    have := (hS.below hz0).next 0 0 (Nat.zero_le _) (by omega) (.inl rfl)
    simpa [atB] using this
  have HZ := Aside0.mk hz0; have HS := Aside0.mk hS; have HJ := Aside0.mk h0; have HY := Aside0.mk hY; have HO := Aside0.mk hJ
  clear hz0 hS h0 hY hJ hW hBn hbn hw
  refine callsIn_of_wp Tryz.func115 rfl trivial ?_ rfl
  simp only [Tryz.ntmps115, List.size_toArray, List.length_cons, List.length_nil, Nat.reduceAdd, Nat.reduceSub, Array.replicate_succ, Array.replicate_zero, List.push_toArray, List.append_toArray, List.nil_append, List.cons_append]
  gi_wp2
  gi_loopw [3] (fun p wr => ∃ pre rest : List Nd, p = .pointer (nextAt 0 rest) ∧ l = pre ++ rest ∧ Aside0 (J pre wr) ∧ Aside0 (Below wS.heap.size wS wr)) (fun p _ => leftN l p)
  case atStart => exact ⟨[], l, rfl, rfl, HJ, HZ⟩
  case round =>
    obtain ⟨pre, rest, rfl, hx, HJ1, HZ1⟩ := hrel
    clear HJ HZ c1 s2
    cases rest with
    | nil =>
      rw [show nextAt 0 ([] : List Nd) = none from rfl]
      gi_wp2
      refine ⟨fun _ h => (by cases h), ?_⟩
      gi_wp2
      go_end0
      exact ⟨⟨_, rfl⟩, l, rfl, by rw [show l = pre by simpa using hx]; exact HJ1.out⟩
    | cons m rest =>
      have hm : 1 ≤ m.h := by
        have hlt : pre.length < l.length := by rw [hx]; simp
        have := HS.out.pos pre.length hlt
        simpa [hx] using this
      rw [nextAt_cons0 m rest hm]
      have hmem : m ∈ l := by rw [hx]; simp
      obtain ⟨fn, tmps, assign, body, hy, hR⟩ := HY.out pre m wr wr HJ1.out (Below.refl _ _) hmem (by rw [hx]; simp)
      have HRd := Aside0.mk hR
      clear hR
      gi_wp2
      refine HRd.out.mono ?_
      rintro e W3 ⟨rfl, hJ3, hk3, -⟩
      have HJ3 := Aside0.mk hJ3
      have HZ3 := Aside0.mk (HZ1.out.trans hk3)
      have s3 : W3.cell? ⟨m.b, 2, none⟩ = some (.pointer (nextAt 0 rest)) := node_next (pre := pre) (by rw [← hx]; exact (HS.out.below HZ3.out).chain) hm
      have HX := Aside0.mk hx
      clear hJ3 hk3 hy hx
      gi_wp2
      go_roundw
      case rel => exact ⟨pre ++ [m], rest, rfl, by rw [HX.out]; simp, HJ3, HZ3⟩
      case measure =>
        have hnd := HS.out.nodup
        rw [HX.out] at hnd ⊢
        rw [leftN_at pre m rest hnd]
        cases rest with
        | nil => rw [show nextAt 0 ([] : List Nd) = none from rfl, leftN_none]; omega
        | cons m2 rest2 =>
          have hm2 : 1 ≤ m2.h := by
            have hlt : (pre ++ [m]).length < l.length := by rw [HX.out]; simp
            have := HS.out.pos _ hlt
            simpa [HX.out] using this
          rw [nextAt_cons0 m2 rest2 hm2]
          have := leftN_at (pre ++ [m]) m2 rest2 (by simpa using hnd)
          rw [show pre ++ m :: m2 :: rest2 = (pre ++ [m]) ++ m2 :: rest2 by simp, this]
          simp
end Go.Proofs.YtojcbknclfamhaaGreatDoor.A
namespace Go.Proofs.YtojcbknclfamhaaGreatDoor.A
open Go.RowKit Go.Proofs.YtojcbknclfamhaaGreatDoorW.PrintWords Go.Proofs.YtojcbknclfamhaaGreatDoorW.PrintLast Go.Proofs.YtojcbknclfamhaaGreatDoorW.PrintMore
set_option linter.unusedVariables false
set_option linter.unusedSimpArgs false
theorem info36s : (Tryz.prog.info? 26).map (·.size) = some 2 := by kernel_rfl
set_option maxHeartbeats 4000000 in
set_option maxRecDepth 100000 in
theorem own.calls (g : Bool) (A : Option Addr) (cap : Nat) (row : List S46) (w : World) (hr : Kd.C k46 w A row.length row) (hcap : row.length ≤ cap) (hsz : row.length * 32 ≤ 140737488355328) :
    Calls Tryz.prog 94 #[.agg #[.bool g, .slice A row.length cap]] w fun e w' => ∃ V, e = .returned (.agg #[.bool g, V]) ∧ Kd.R k46 46 w' w.heap.size (fun _ => True) V row ∧ Below w.heap.size w w' := by
  have hu3 := Tryz.underlying46
  have hu4 := Tryz.underlying26
  have hu6 := Tryz.underlying24
  have hz1 : (w.alloc (.cells #[.bool g, .slice A row.length cap] 26)).heap.size = w.heap.size + 1 := World.size_alloc _ _
  have b2 := below_alloc (below_alloc (Below.refl _ w) (.cells #[.bool g, .slice A row.length cap] 26)) (.cells #[.bool false, .slice none 0 0] 26)
  have k1 := ((below_alloc (Below.refl _ (w.alloc (.cells #[.bool g, .slice A row.length cap] 26))) (.cells #[.bool false, .slice none 0 0] 26)).block w.heap.size (by omega)).trans (blk_new w (.cells #[.bool g, .slice A row.length cap] 26))
  have k2 := blk_new (w.alloc (.cells #[.bool g, .slice A row.length cap] 26)) (.cells #[.bool false, .slice none 0 0] 26)
  rw [hz1] at k2
  have HB2 := Aside0.mk b2; have HK1 := Aside0.mk k1; have HK2 := Aside0.mk k2; have HR := Aside0.mk hr; have HC := Aside0.mk hcap; have HS := Aside0.mk hsz
  clear hr hcap hsz b2 k1 k2
  go_enter Tryz.func94, Tryz.ntmps94
  go_upto_block 0 with fail
  generalize World.alloc (w.alloc _) _ = w2 at *
  have q0 := (blk_cell HK1.out 0).trans (show #[Value.bool g, .slice A row.length cap][0]? = some (.bool g) from rfl)
  have q1 := (blk_cell HK1.out 1).trans (show #[Value.bool g, .slice A row.length cap][1]? = some (.slice A row.length cap) from rfl)
  clear hz1
  go_region_with (first | (go_at_call 59; refine (api_Value.calls A cap row row _ (Kd.C_below (Kd.C_below HR.out HB2.out) (pw_below_drewN (Below.refl _ _) _)) HC.out (by unfold api_Value.f; rw [if_pos HS.out])).mono ?_; rintro e wv ⟨V, rfl, hRv, hb⟩; (have hbb := (pw_below_drewN (Below.refl w2.heap.size w2) _).trans hb); (obtain ⟨A2, c2, rfl⟩ := Kd.R_slice hRv); (have HRv := Aside0.mk hRv); (have HBv := Aside0.mk hbb); (have hd1 := (hbb.block _ (Array.getElem?_eq_some_iff.1 HK1.out).1).trans HK1.out); (have hd2 := (hbb.block _ (Array.getElem?_eq_some_iff.1 HK2.out).1).trans HK2.out); (have HD2 := Aside0.mk hd2); (have q0v := (blk_cell hd1 0).trans (show #[Value.bool g, .slice A row.length cap][0]? = some (.bool g) from rfl)); (have q1v := (blk_cell hd1 1).trans (show #[Value.bool g, .slice A row.length cap][1]? = some (.slice A row.length cap) from rfl)); (have e0v := blk_cell hd2 0); (have e1v := blk_cell hd2 1); (have f0v := blk_frozen hd2 0); (have f1v := blk_frozen hd2 1); clear hb hbb hd1 hd2 hRv))
  all_goals (
    go_wp2_with fail
    have hfin : ((wv.setCell ⟨w.heap.size + 1, 0, none⟩ (.bool g)).setCell ⟨w.heap.size + 1, 1, none⟩ (.slice A2 row.length c2)).heap[w.heap.size + 1]? = some (.cells #[.bool g, .slice A2 row.length c2] 26 (0, 0)) := blk_set (blk_set HD2.out 0 (.bool g)) 1 (.slice A2 row.length c2)
    have hmid : (wv.setCell ⟨w.heap.size + 1, 0, none⟩ (.bool g)).heap[w.heap.size + 1]? = some (.cells #[.bool g, .slice none 0 0] 26 (0, 0)) := blk_set HD2.out 0 (.bool g)
    refine bodyPost_ret (results_cell_row rfl _ _ (w.heap.size + 1) _ #[.bool g, .slice A2 row.length c2] _ _ rfl hfin hu4 rfl info36s) rfl ⟨_, rfl, ?_, ?_⟩
    · exact Kd.R_set (Kd.R_set (Kd.R_lower HRv.out (Nat.le_trans HB2.out.size (Nat.le_refl _))) HD2.out (by decide) 0 _) hmid (by decide) 1 _
    · exact ((HB2.out.trans (HBv.out.mono HB2.out.size)).setCell (p := ⟨w.heap.size + 1, 0, none⟩) (Nat.le_succ _) _).setCell (p := ⟨w.heap.size + 1, 1, none⟩) (Nat.le_succ _) _)
end Go.Proofs.YtojcbknclfamhaaGreatDoor.A
namespace Go.Proofs.YtojcbknclfamhaaGreatDoor.A
open Go.RowKit Go.Proofs.YtojcbknclfamhaaGreatDoorW.PrintWords Go.Proofs.YtojcbknclfamhaaGreatDoorW.PrintLast Go.Proofs.YtojcbknclfamhaaGreatDoorW.PrintMore
open Go.Shelf
set_option linter.unusedVariables false
set_option linter.unusedSimpArgs false
attribute [local go_sem] Oper.semAt_some
theorem behind.calls (p : Option Addr) (w : World) : Calls Tryz.prog 93 #[.pointer p] w fun e w' => e = .returned (.func (.func 115) #[] #[.pointer (some ⟨w.heap.size, 0, none⟩)]) ∧ w' = w.alloc (.cells #[.pointer p] 102) := by
  go_enter Tryz.func93, Tryz.ntmps93
  go_wp2_with fail
  go_ret
  exact ⟨rfl, rfl⟩
theorem given.calls (p : Option Addr) (w : World) : Calls Tryz.prog 65 #[.pointer p] w fun e w' => e = .returned (.func (.func 92) #[] #[.pointer (some ⟨w.heap.size, 0, none⟩)]) ∧ w' = w.alloc (.cells #[.pointer p] 102) := by
  go_enter Tryz.func65, Tryz.ntmps65
  go_wp2_with fail
  go_ret
  exact ⟨rfl, rfl⟩
theorem Rows_slice {W : World} {base : Nat} {ok : Nat → Prop} {V : Value} {r : List S46} (h : Kd.R k46 46 W base ok V r) : ∃ A c, V = .slice A r.length c ∧ r.length ≤ c ∧ Kd.C k46 W A r.length r := Kd.R_reads h
set_option maxRecDepth 100000 in
set_option maxHeartbeats 8000000 in
theorem given_seq (n : Nat) (hn : 3 ≤ n) (w0 wS : World) (lb : Nat) (l : List Nd) (seed cnt bytes : Int) (hS : Sk w0 wS lb l seed cnt bytes) (hall : ∀ m ∈ l, m.d.f1.length * 32 ≤ 140737488355328) (Bn : Nat) (w : World) (hw : Below wS.heap.size wS w) (hBn : w.heap[Bn]? = some (.cells #[.pointer (some ⟨lb, 0, none⟩)] 102 (0, 0))) :
    SeqR Fence.wide n Tryz.prog 92 #[.pointer (some ⟨Bn, 0, none⟩)] (fun x : S26 × Value => .agg #[.bool x.1.f0, x.2]) 58 wS.heap.size (fun W0 W1 x => Kd.R k46 46 W1 W0.heap.size (fun _ => True) x.2 x.1.f1) (fun xs => xs.map Prod.fst = l.map (fun m => m.d)) l.length w := by
  intro l1 J W hW hJ hY h0
  have h1 : 1 ≤ n := by omega
  have hu := Tryz.underlying105
  have hu4 := Tryz.underlying26
  have b1 := below_alloc (Below.refl _ W) (.cells #[.func (.yield l1) #[] #[]] 58)
  have k1 := blk_new W (.cells #[.func (.yield l1) #[] #[]] 58)
  have hbn := (b1.block _ (Array.getElem?_eq_some_iff.1 ((hW.block _ (Array.getElem?_eq_some_iff.1 hBn).1).trans hBn)).1).trans ((hW.block _ (Array.getElem?_eq_some_iff.1 hBn).1).trans hBn)
  have c1 := blk_cell hbn 0
  have hz0 : Below wS.heap.size wS W := hw.trans (hW.mono hw.size)
  refine callsIn_of_wp_marks Tryz.func92 rfl trivial ?_ rfl
  simp only [Tryz.ntmps92, List.size_toArray, List.length_cons, List.length_nil, Nat.reduceAdd, Nat.reduceSub, Array.replicate_succ, Array.replicate_zero, List.push_toArray, List.append_toArray, List.nil_append, List.cons_append]
  have HZ := Aside0.mk hz0; have HS := Aside0.mk hS; have HJ := Aside0.mk h0; have HY := Aside0.mk hY; have HO := Aside0.mk hJ; have HB1 := Aside0.mk b1; have HK1 := Aside0.mk k1; have HAL := Aside0.mk hall
  clear hz0 hS h0 hY hJ hW hBn hbn hw b1 k1 hall
  gi_wp2_with (refine ⟨trivial, ?_⟩; gi_at_call 93; refine (callsIn_wide.2 (behind.calls _ _)).mono ?_; rintro e w' ⟨rfl, rfl⟩)
  have hz1 : (W.alloc (.cells #[.func (.yield l1) #[] #[]] 58)).heap.size = W.heap.size + 1 := World.size_alloc _ _
  have b2 := below_alloc HB1.out (.cells #[.pointer (some ⟨lb, 0, none⟩)] 102)
  have k2 := ((below_alloc (Below.refl _ (W.alloc (.cells #[.func (.yield l1) #[] #[]] 58))) (.cells #[.pointer (some ⟨lb, 0, none⟩)] 102)).block W.heap.size (by omega)).trans HK1.out
  have k3 := blk_new (W.alloc (.cells #[.func (.yield l1) #[] #[]] 58)) (.cells #[.pointer (some ⟨lb, 0, none⟩)] 102)
  rw [hz1] at k3
  have HB2 := Aside0.mk b2; have HK2 := Aside0.mk k2; have HK3 := Aside0.mk k3
  clear HB1 HK1 b2 k2 k3 hz1 c1
  generalize World.alloc (W.alloc _) _ = W2 at *
  have hz2 : W.heap.size + 1 < W2.heap.size := (Array.getElem?_eq_some_iff.1 HK3.out).1
  have hzw : wS.heap.size ≤ W.heap.size := HZ.out.size
  have HZ2 := Aside0.mk (HZ.out.trans (HB2.out.mono hzw))
  refine wpIn_range_rel rfl h1 (gf := 115) (lb := #[.pointer (some ⟨W.heap.size + 1, 0, none⟩)]) rfl trivial (enters_of Tryz.func115 (by kernel_rfl) rfl) (behind_seq 58 (n - 1) (by omega) w0 wS lb l seed cnt bytes HS.out (W.heap.size + 1) W2 HZ2.out HK3.out) (by omega) (Below.refl _ _)
    (fun pre Wr => ∃ vs : List (S26 × Value), vs.map Prod.fst = pre.map (fun m => m.d) ∧ J vs Wr ∧ Below wS.heap.size wS Wr ∧ Wr.heap[W.heap.size]? = some (.cells #[.func (.yield l1) #[] #[]] 58 (0, 0))) ?own ?start
    (fun pre m a' Wr => (∃ vs : List (S26 × Value), vs.map Prod.fst = pre.map (fun m => m.d) ∧ J vs Wr ∧ Below wS.heap.size wS Wr ∧ Wr.heap[W.heap.size]? = some (.cells #[.func (.yield l1) #[] #[]] 58 (0, 0))) ∧ m ∈ l ∧ a' = { tmps := #[.func (.yield l1) #[] #[], .pointer (some ⟨Bn, 0, none⟩), .pointer (some ⟨W.heap.size, 0, none⟩), .pointer (some ⟨m.b, 0, none⟩), .pointer (some ⟨lb, 0, none⟩), .func (.func 115) #[] #[.pointer (some ⟨W.heap.size + 1, 0, none⟩)], .pointer (some ⟨m.b, 0, none⟩), undef, undef, undef, undef, undef, undef, undef, undef], defers := [] }) ?ax ?assign ?body ?done
  case own =>
    rintro pre A B row ⟨vs, e, hJ, hZ, hY⟩ hg hr
    refine ⟨vs, e, ownFrom_mono HO.out (by omega) vs A B row hJ hg hr, hZ.grown hg hZ.size (fun k e => by have := (hr k e).1; omega), (hg.block _ (Array.getElem?_eq_some_iff.1 hY).1 ?_).trans hY⟩
    intro e; have := (hr _ e.symm).1; omega
  case start => exact ⟨[], rfl, ownFrom_new HO.out HJ.out HB2.out, HZ2.out, HK2.out⟩
  case ax =>
    rintro pre m a' Wr l2 o o' hl2 ho hc ⟨⟨vs, e, hJ, hZ, hY⟩, hm, rfl⟩
    have hlt := (Array.getElem?_eq_some_iff.1 ho).1
    exact ⟨⟨vs, e, HO.out.putObj _ hJ (by omega) ho hc, hZ.trans (below_putObj Wr l2 o' (by omega) hlt), (World.putObj_heap_other (by omega)).trans hY⟩, hm, rfl⟩
  case assign =>
    rintro l2 pre m W0 W1 K ⟨vs, e, hJ, hZ, hY⟩ hb _ hm _ hK
    have hfin := hK _ W1 (KeepsBox.refl _ _ _) (Below.refl _ _) ⟨⟨vs, e, ownFrom_new HO.out hJ hb, hZ.trans (hb.mono hZ.size), (hb.block _ (Array.getElem?_eq_some_iff.1 hY).1).trans hY⟩, hm, rfl⟩
    gi_wp2
    exact hfin
  case body =>
    rintro l2 pre m a' Wr hl2 hsz hlen ⟨⟨vs, e, hJ, hZ, hY⟩, hm, rfl⟩
    obtain ⟨V, A, c, hV, hle, hC⟩ : ∃ V A c, Wr.heap[m.b]? = some (.cells (nodeCells m (.slice A m.d.f1.length c) V) 105 (0, 0)) ∧ m.d.f1.length ≤ c ∧ Kd.C k46 Wr A m.d.f1.length m.d.f1 := by
      obtain ⟨s, r, hx⟩ := List.append_of_mem hm
      have hch := (HS.out.below hZ).chain
      rw [hx] at hch
      obtain ⟨⟨V, hV, hR⟩, -⟩ := hch.node
      obtain ⟨A, c, rfl, h2, h3⟩ := Rows_slice hR
      exact ⟨r, A, c, hV, h2, h3⟩
    have n0 : Wr.cell? ⟨m.b, 0, none⟩ = some (.bool m.d.f0) := cells_at2 hV 0 _ rfl
    have n1 : Wr.cell? ⟨m.b, 1, none⟩ = some (.slice A m.d.f1.length c) := cells_at2 hV 1 _ rfl
    have y0 := blk_cell hY 0
    have HC := Aside0.mk hC; have HLE := Aside0.mk hle; have HYY := Aside0.mk hY; have HJJ := Aside0.mk hJ; have HZZ := Aside0.mk hZ; have HE := Aside0.mk e; have HM := Aside0.mk hm; have HSZ := Aside0.mk hsz; have HLN := Aside0.mk hlen
    clear hC hle hY hJ hZ e hm hsz hlen hV hz2 hzw
    have hd : 1 ≤ n - 1 - 1 := by omega
    have hmx : Tryz.prog.follows .mixedOrders = true := by kernel_rfl
    have HVL : Aside0 (vs.length < l.length) := ⟨by have := congrArg List.length HE.out; simp at this; have := HLN.out; omega⟩
    gi_wp2
    gi_region_with_o (first
      | (refine ⟨trivial, ?_⟩; gi_at_call 94; refine (CallsIn.inRound l2 (callsIn_wide.2 (own.calls m.d.f0 A c m.d.f1 _ (Kd.C_below HC.out (Below.refl Wr.heap.size Wr).drew) HLE.out (HAL.out m HM.out)))).mono ?_; rintro e wv ⟨V2, rfl, hR2, hb2⟩; (have hbb := (Below.refl Wr.heap.size Wr).drew.trans hb2); (have HBB := Aside0.mk hbb); (have y0v := blk_cell ((hbb.block _ (Array.getElem?_eq_some_iff.1 HYY.out).1).trans HYY.out) 0); (obtain ⟨fn2, tmps2, asg2, bd2, hy2, hR3⟩ := HY.out vs (m.d, V2) Wr wv HJJ.out hbb hR2 HVL.out); (have HR3 := Aside0.mk hR3); clear hR3 hbb hb2 hR2)
      | (refine (yield_any HR3.out).mono ?_; rintro e W3 ⟨rfl, hJ3, hk3, hf3⟩; (have HJ3 := Aside0.mk hJ3); (have HK3' := Aside0.mk hk3); (have HF3 := Aside0.mk hf3); clear hJ3 hk3 hf3 hy2))
    all_goals gi_wp2
    all_goals (
      have hyw := (HBB.out.block _ (Array.getElem?_eq_some_iff.1 HYY.out).1).trans HYY.out
      exact ⟨(KeepsBox.new HBB.out).trans (HF3.out.mono (Nat.le_trans (Nat.le_refl _) HB2.out.size)), (HBB.out.mono HZZ.out.size).trans HK3'.out, vs ++ [(m.d, V2)], by rw [List.map_append, HE.out]; rfl, HJ3.out, (HZZ.out.trans (HBB.out.mono HZZ.out.size)).trans HK3'.out, HF3.out.same _ _ (Nat.le_refl _) hyw (.inr ⟨_, _, rfl⟩)⟩)
  case done =>
    rintro D xs Wr hD hxs ⟨vs, e, hJ, hZ, hY⟩ hK
    gi_wp2
    refine ⟨by simp, .inl ⟨_, _, rfl, run_takeDeferred hK, ?_⟩⟩
    exact ⟨_, results_none rfl _ _ _, ⟨_, rfl⟩, vs, by rw [e, hxs], HO.out.putObj _ hJ (by omega) hK rfl⟩
end Go.Proofs.YtojcbknclfamhaaGreatDoor.A
namespace Go.Proofs.YtojcbknclfamhaaGreatDoor.A
open Go.RowKit Go.Proofs.YtojcbknclfamhaaGreatDoorW.PrintWords Go.Proofs.YtojcbknclfamhaaGreatDoorW.PrintLast Go.Proofs.YtojcbknclfamhaaGreatDoorW.PrintMore
open Go.Shelf
set_option linter.unusedVariables false
set_option linter.unusedSimpArgs false
attribute [local go_sem] Oper.semAt_some
theorem info36d : (Tryz.prog.info? 26).map (fun i => (i.zero, i.size, i.bytes)) = some (some (.agg #[.bool false, .slice none 0 0]), 2, 32) := by kernel_rfl
theorem all.calls (lb : Nat) (w : World) (t : TypeId) (cs : Array Value) (fr : Nat × Nat) (hlb : w.heap[lb]? = some (.cells cs t fr)) : Calls Tryz.prog 30 #[.pointer (some ⟨lb, 0, none⟩)] w fun e w' => e = .returned (.func (.func 92) #[] #[.pointer (some ⟨w.heap.size, 0, none⟩)]) ∧ w' = w.alloc (.cells #[.pointer (some ⟨lb, 0, none⟩)] 102) := by
  have hu2 := Tryz.underlying107
  go_enter Tryz.func30, Tryz.ntmps30
  go_wp2_with fail
  refine (given.calls _ _).mono ?_
  rintro e w' ⟨rfl, rfl⟩
  go_wp2_with fail
  go_ret
  exact ⟨rfl, rfl⟩
theorem S_turn {α : Type} {d : Kd α} {e base : Nat} {A B : World} {row : Option Nat} {v : Value} {xs : List α} (h : Kd.S d e A base (fun _ => True) v xs) (hg : A.grownBy B row) (hr : ∀ r, row = some r → ∃ o : Obj, A.heap[r]? = some o ∧ o.isCells = false) : Kd.S d e B base (fun _ => True) v xs :=
  Kd.S_mono (Kd.S_grown (Kd.S_bound h) hg (fun k hk e => by
    obtain ⟨o, ho, hc⟩ := hr k e.symm
    obtain ⟨-, -, -, q, -, cells, hcell⟩ := hk
    rw [hcell] at ho
    cases ho
    cases hc)) (fun _ _ => trivial)
set_option maxRecDepth 100000 in
set_option maxHeartbeats 8000000 in
theorem appendSeq_in (n : Nat) (hn : 4 ≤ n) (w0 w : World) (lb : Nat) (l : List Nd) (seed cnt bytes : Int) (hS : Sk w0 w lb l seed cnt bytes) (hall : ∀ m ∈ l, m.d.f1.length * 32 ≤ 140737488355328) (hlen : (l.length + 1) * 32 ≤ 140737488355328) (Bn : Nat) (hBn : w.heap[Bn]? = some (.cells #[.pointer (some ⟨lb, 0, none⟩)] 102 (0, 0))) :
    CallsIn Fence.wide n Tryz.prog 64 #[.slice none 0 0, .func (.func 92) #[] #[.pointer (some ⟨Bn, 0, none⟩)]] w fun e w' => ∃ V, e = .returned V ∧ Kd.S k26 26 w' w.heap.size (fun _ => True) V (l.map (fun m => m.d)) ∧ Below w.heap.size w w' := by
  have h1 : 1 ≤ n := by omega
  have hu4 := Tryz.underlying26
  have hu5 := Tryz.underlying28
  have b1 := below_alloc (Below.refl _ w) (.cells #[.slice none 0 0] 28)
  have k1 := blk_new w (.cells #[.slice none 0 0] 28)
  refine callsIn_of_wp_marks Tryz.func64 rfl trivial ?_ rfl
  simp only [Tryz.ntmps64, List.size_toArray, List.length_cons, List.length_nil, Nat.reduceAdd, Nat.reduceSub, Array.replicate_succ, Array.replicate_zero, List.push_toArray, List.append_toArray, List.nil_append, List.cons_append]
  have HS := Aside0.mk hS; have HB1 := Aside0.mk b1; have HK1 := Aside0.mk k1; have HAL := Aside0.mk hall; have HLN := Aside0.mk hlen; have HBN := Aside0.mk hBn
  clear hS b1 k1 hall hlen hBn
  gi_wp2
  have hz := World.size_alloc w (.cells #[.slice none 0 0] 28)
  generalize w.alloc (.cells #[.slice none 0 0] 28) = W0 at *
  refine wpIn_range_rel rfl h1 (gf := 92) (lb := #[.pointer (some ⟨Bn, 0, none⟩)]) rfl trivial (enters_of Tryz.func92 (by kernel_rfl) rfl) (given_seq (n - 1) (by omega) w0 w lb l seed cnt bytes HS.out HAL.out Bn w (Below.refl _ _) HBN.out) (by omega) HB1.out
    (fun pre Wr => ∃ v, Wr.heap[w.heap.size]? = some (.cells #[v] 28 (0, 0)) ∧ Kd.S k26 26 Wr w.heap.size (fun _ => True) v (pre.map Prod.fst) ∧ Below w.heap.size w Wr) ?own ?start
    (fun pre x a' Wr => ∃ (Bx : Nat) (v : Value), a' = { tmps := #[.slice none 0 0, .func (.func 92) #[] #[.pointer (some ⟨Bn, 0, none⟩)], .pointer (some ⟨w.heap.size, 0, none⟩), undef, .slice none 0 0, .pointer (some ⟨Bx, 0, none⟩), .func (.func 92) #[] #[.pointer (some ⟨Bn, 0, none⟩)], .agg #[.bool x.1.f0, x.2], undef, undef, undef, undef, undef], defers := [] } ∧ Wr.heap[Bx]? = some (.cells #[.bool x.1.f0, x.2] 26 (0, 0)) ∧ Wr.heap[w.heap.size]? = some (.cells #[v] 28 (0, 0)) ∧ Kd.S k26 26 Wr w.heap.size (fun k => True ∧ ¬ some k = x.2.ownBlock) v (pre.map Prod.fst) ∧ Kd.R k46 46 Wr w.heap.size (fun k => some k = x.2.ownBlock) x.2 x.1.f1 ∧ Below w.heap.size w Wr) ?ax ?assign ?body ?done
  case own =>
    rintro pre A B row ⟨v, hv, hSv, hB⟩ hg hr
    refine ⟨v, (hg.block _ (Array.getElem?_eq_some_iff.1 hv).1 ?_).trans hv, S_turn hSv hg (fun r e => (hr r e).2), hB.grown hg hB.size (fun k e => by have := (hr k e).1; omega)⟩
    intro e; have := (hr _ e.symm).1; omega
  case start => exact ⟨_, HK1.out, Kd.S_nil _ _ _ _ _, HB1.out⟩
  case ax =>
    rintro pre x a' Wr l2 o o' hl2 ho hc ⟨Bx, v, rfl, hx, hv, hSv, hR, hB⟩
    have hlt := (Array.getElem?_eq_some_iff.1 ho).1
    have hne : ∀ {k : Nat} {cs : Array Value} {t : TypeId} {fr : Nat × Nat}, Wr.heap[k]? = some (.cells cs t fr) → k ≠ l2 := fun hk e => by
      rw [e, ho] at hk; cases hk; cases hc
    refine ⟨Bx, v, rfl, (World.putObj_heap_other (hne hx)).trans hx, (World.putObj_heap_other (hne hv)).trans hv, ?_, ?_, hB.trans (below_putObj Wr l2 o' (by omega) hlt)⟩
    · refine Kd.S_mono (Kd.S_step (Kd.S_bound hSv) (fun k hk _ => World.putObj_heap_other ?_)) (fun _ hk => hk.1)
      obtain ⟨-, -, -, q, -, cells, hcell⟩ := hk
      exact hne hcell
    · refine Kd.R_mono (Kd.R_step (Kd.R_bound hR) (fun k hk _ => World.putObj_heap_other ?_)) (fun _ hk => hk.1)
      obtain ⟨-, -, -, q, -, cells, hcell⟩ := hk
      exact hne hcell
  case assign =>
    rintro l2 pre ⟨d, V⟩ W1 W2 K ⟨v, hv, hSv, hB⟩ hb hsz hR hlen hK
    simp only at hR hK
    obtain ⟨A, c, rfl, -, -⟩ := Rows_slice hR
    have kx3 := blk_new W2 (.cells #[.bool d.f0, .slice A d.f1.length c] 26)
    have hb3 : Below W2.heap.size W2 (W2.alloc (.cells #[.bool d.f0, .slice A d.f1.length c] 26)) := below_alloc (Below.refl _ W2) _
    have hv3 := (hb3.block _ (Array.getElem?_eq_some_iff.1 ((hb.block _ (Array.getElem?_eq_some_iff.1 hv).1).trans hv)).1).trans ((hb.block _ (Array.getElem?_eq_some_iff.1 hv).1).trans hv)
    have hB2 : Below w.heap.size w W2 := hB.trans (hb.mono hB.size)
    have hfin := Aside0.mk (hK _ _ (KeepsBox.new hb3) (hb3.mono hB2.size) ⟨W2.heap.size, v, rfl, kx3, hv3, Kd.S_below (Kd.S_elder' hSv (Kd.R_base hR) hb) hb3, Kd.R_tight rfl (Kd.R_below (Kd.R_lower hR hB.size) hb3), hB2.trans (hb3.mono hB2.size)⟩)
    clear hK kx3 hb3 hv3
    gi_wp2
    exact hfin.out
  case body =>
    rintro l2 pre ⟨d, V⟩ a' Wr hl2 hsz hlen ⟨Bx, v, rfl, hx, hv, hSv, hR, hB⟩
    simp only at hx hSv hR
    obtain ⟨A, c, rfl, -, -⟩ := Rows_slice hR
    have e0 : Wr.cell? ⟨Bx, 0, none⟩ = some (.bool d.f0) := blk_cell hx 0
    have e1 : Wr.cell? ⟨Bx, 1, none⟩ = some (.slice A d.f1.length c) := blk_cell hx 1
    have e2 : Wr.cell? ⟨w.heap.size, 0, none⟩ = some v := blk_cell hv 0
    have hvt := Kd.S_typed hSv
    have hokp : ∀ k, some k = (Value.slice A d.f1.length c).ownBlock → True ∧ some k ≠ v.ownBlock := fun k hk => ⟨trivial, fun e => by
      obtain ⟨cs1, h1⟩ := hvt k e.symm
      obtain ⟨cs2, h2⟩ := Kd.R_typed hR k hk.symm
      rw [h1] at h2
      cases h2⟩
    have hbv := Kd.S_base hSv
    have hvs : some w.heap.size ≠ v.ownBlock := fun e => by
      obtain ⟨cs1, h1⟩ := hvt _ e.symm
      rw [hv] at h1
      cases h1
    have HP := Aside0.mk (k26_mkM Wr w.heap.size (fun k => some k = (Value.slice A d.f1.length c).ownBlock) d hR)
    have HSV := Aside0.mk hSv; have HOK := Aside0.mk hokp; have HBB := Aside0.mk hB; have HV := Aside0.mk hv; have HVT := Aside0.mk hvt; have HBV := Aside0.mk hbv; have HVS := Aside0.mk hvs; have HPL := Aside0.mk hlen
    clear hSv hokp hB hv hvt hbv hvs hx hR hlen
    gi_wp2_with (gi_at_builtin; refine S_append_in k26 w.heap.size rfl (.tmp 8) (.tmp 10) 28 26 (.agg #[.bool false, .slice none 0 0]) 32 rfl hu5 info36d rfl (by decide) (by decide) v (pre.map Prod.fst) d [.bool d.f0, .slice A d.f1.length c] (fun _ => True) (fun k => some k = (Value.slice A d.f1.length c).ownBlock) rfl rfl HP.out HOK.out (fun _ _ => trivial) HSV.out HBB.out.size (by rw [List.length_map]; have := HLN.out; have := HPL.out; omega) ?_; intro v1 w1 hS1 hg1 hat1; (obtain ⟨A1, c1, rfl, -, -⟩ := Kd.R_reads (Kd.S_R hS1)); (have hv1 := (hg1.block _ (Array.getElem?_eq_some_iff.1 HV.out).1 HVS.out).trans HV.out); (have e3 := blk_cell hv1 0); (have f3 := blk_frozen hv1 0); (have HS1 := Aside0.mk hS1); (have HG1 := Aside0.mk hg1); (have HV1 := Aside0.mk hv1); (have HAT := Aside0.mk hat1); clear hS1 hg1 hv1 hat1)
    have hS2 := HS1.out
    rw [show (pre.map Prod.fst ++ [d]).length = pre.length + 1 by simp] at hS2
    have hgs := grownBy_setCell' w1 w.heap.size (.slice A1 (pre.length + 1) c1)
    have hbw : Below w.heap.size Wr (w1.setCell ⟨w.heap.size, 0, none⟩ (.slice A1 (pre.length + 1) c1)) := ((Below.refl _ Wr).grown HG1.out HBB.out.size HBV.out).setCell (p := ⟨w.heap.size, 0, none⟩) (Nat.le_refl _) _
    exact ⟨(KeepsBox.turn HG1.out (fun j e => by obtain ⟨cs, h⟩ := HVT.out j e; exact ⟨cs, _, _, h, by decide⟩)).trans (KeepsBox.turn hgs (fun j e => by cases e; exact ⟨_, _, _, HV1.out, by decide⟩)), hbw, _, blk_set HV1.out 0 _, Kd.S_set hS2 HV1.out (by decide) 0 _, HBB.out.trans hbw⟩
  case done =>
    rintro D xs Wr hD hxs ⟨v, hv, hSv, hB⟩ hK
    have hc := blk_cell hv 0
    gi_wp2
    refine ⟨by simp, .inl ⟨_, _, rfl, run_takeDeferred hK, ?_⟩⟩
    refine ⟨_, results_tmp rfl _ _ _, v, rfl, ?_, hB.trans (below_putObj Wr D _ (by omega) (Array.getElem?_eq_some_iff.1 hK).1)⟩
    rw [← hxs]
    exact S_turn hSv (grownBy_putObj' Wr D _) (fun r e => by cases e; exact ⟨_, hK, rfl⟩)
theorem collect.calls (w0 w : World) (lb : Nat) (l : List Nd) (seed cnt bytes : Int) (hS : Sk w0 w lb l seed cnt bytes) (hall : ∀ m ∈ l, m.d.f1.length * 32 ≤ 140737488355328) (hlen : (l.length + 1) * 32 ≤ 140737488355328) (Bn : Nat) (hBn : w.heap[Bn]? = some (.cells #[.pointer (some ⟨lb, 0, none⟩)] 102 (0, 0))) :
    Calls Tryz.prog 29 #[.func (.func 92) #[] #[.pointer (some ⟨Bn, 0, none⟩)]] w fun e w' => ∃ V, e = .returned V ∧ Kd.S k26 26 w' w.heap.size (fun _ => True) V (l.map (fun m => m.d)) ∧ Below w.heap.size w w' := by
  have HC := Aside0.mk (callsIn_wide.1 (appendSeq_in 4 (Nat.le_refl _) w0 w lb l seed cnt bytes hS hall hlen Bn hBn))
  clear hS hall hlen hBn
  go_enter Tryz.func29, Tryz.ntmps29
  go_wp2_with fail
  refine HC.out.mono ?_
  rintro e w' ⟨V, rfl, hSv, hB⟩
  have HSV := Aside0.mk hSv; have HB := Aside0.mk hB
  clear hSv hB HC
  go_wp2_with fail
  go_ret
  exact ⟨_, rfl, HSV.out, HB.out⟩
end Go.Proofs.YtojcbknclfamhaaGreatDoor.A
