/- The reader's query: what words come to, of any words, so many within one another; in every world that holds strconv's table and errors. -/
import Derived.Test.YtglcajijmkianaaDoorAx0
import Derived.Test.YtglcajijmkianaaDoorHAsk
import Derived.IntWalk
namespace Go.Proofs.YtglcajijmkianaaDoor.A
open Go.RowKit Go.Proofs.YtglcajijmkianaaDoorW.PrintWords Go.Proofs.YtglcajijmkianaaDoorW.PrintLast Go.Proofs.YtglcajijmkianaaDoorW.PrintMore
open Go.Lib
set_option linter.unusedVariables false
set_option linter.unusedSimpArgs false

theorem RdStep.cell {w0 w w1 : World} {g b i : Nat} {l : List ByteArray} {bad : Bool} {v : Value} (h : RdStep w0 w w1 g l bad) (hc : w.cell? ⟨b, i, none⟩ = some v) (hne : b ≠ g) : w1.cell? ⟨b, i, none⟩ = some v :=
  (World.cell?_of_block (w := w) (a := ⟨b, i, none⟩) (h.2.2.2 b (World.block_lt_of_cell? w _ hc) hne (by simp))).trans hc
theorem cell_far_alloc {W : World} {b b' i j : Nat} {u v : Value} {o : Obj} (h : W.cell? ⟨b, i, none⟩ = some v) (hne : b ≠ b') : ((W.setCell ⟨b', j, none⟩ u).alloc o).cell? ⟨b, i, none⟩ = some v :=
  pw_cell_below (below_alloc (Below.refl _ _) o) ((World.cell?_setCell_other W ⟨b', j, none⟩ ⟨b, i, none⟩ u (fun e => hne (congrArg Addr.block e).symm)).trans h)
/-- Between blocks lo and hi nothing has turned but block g. -/
def KeepIn (lo hi g : Nat) (W W' : World) : Prop := ∀ i, lo ≤ i → i < hi → i ≠ g → W'.heap[i]? = W.heap[i]?
/-- Queries that a row of memory holds, between blocks lo and hi, whatever becomes of block g and of all others. -/
def Rk (W : World) (lo hi g : Nat) (A : Option Addr) (xs : List S28) : Prop := hi ≤ W.heap.size ∧ ∀ W', KeepIn lo hi g W W' → Kd.C k28 W' A xs.length xs
section
variable {W W1 : World} {lo hi lo' hi' g : Nat} {A : Option Addr} {xs : List S28}
theorem Rk.step (h : Rk W lo hi g A xs) (hs : hi ≤ W1.heap.size) (hk : KeepIn lo hi g W W1) : Rk W1 lo hi g A xs := ⟨hs, fun W' h' => h.2 W' (fun i h0 h1 h2 => (h' i h0 h1 h2).trans (hk i h0 h1 h2))⟩
theorem Rk.but (h : Rk W lo hi g A xs) (hk : KeepBut W W1 g none) : Rk W1 lo hi g A xs := h.step (Nat.le_trans h.1 hk.1) (fun i _ h1 h2 => hk.2 i (Nat.lt_of_lt_of_le h1 h.1) h2 (by simp))
theorem Rk.below (h : Rk W lo hi g A xs) (hb : Below W.heap.size W W1) : Rk W1 lo hi g A xs := h.but (KeepBut.of_below hb g none)
theorem Rk.set (h : Rk W lo hi g A xs) {p : Addr} (hp : p.block < lo ∨ hi ≤ p.block) (u : Value) : Rk (W.setCell p u) lo hi g A xs :=
  h.step (by have := h.1; simpa [World.setCell] using this) (fun i h0 h1 _ => Below.heap_setCell W p u i (by omega))
theorem Rk.widen (h : Rk W lo hi g A xs) (h0 : lo' ≤ lo) (h1 : hi ≤ hi') (h2 : hi' ≤ W.heap.size) : Rk W lo' hi' g A xs := ⟨h2, fun W' h' => h.2 W' (fun i a b c => h' i (Nat.le_trans h0 a) (Nat.lt_of_lt_of_le b h1) c)⟩
theorem Rk.nil (W : World) (lo g : Nat) : Rk W lo W.heap.size g none [] := ⟨Nat.le_refl _, fun W' _ => Kd.C_nil k28 W'⟩
theorem Rk.now (h : Rk W lo hi g A xs) : Kd.C k28 W A xs.length xs := h.2 W (fun _ _ _ _ => rfl)
end

theorem blk_new_at (W : World) (o : Obj) (n : Nat) (hn : n = W.heap.size) : (W.alloc o).heap[n]? = some o := by subst hn; exact blk_new W o
theorem Rk.one {W : World} {lo hi g b : Nat} {k : S28} {A : Option Addr} {c : Nat} {t : TypeId} (hb : W.heap[b]? = some (.cells #[.int .i64 k.f0, .int .i64 k.f1.f0, .int .i64 k.f1.f1, .bool k.f1.f2.f0, .int .i64 k.f1.f2.f1, .string k.f1.f2.f2, .slice A k.f2.length c] t (0, 0))) (hne : b ≠ g) (hbb : lo ≤ b) (hbh : b < hi) (hh : hi ≤ W.heap.size) (hl : k.f2.length ≤ c) (hR : Rk W lo hi g A k.f2) : Rk W lo hi g (some ⟨b, 0, none⟩) [k] := by
  refine ⟨hh, fun W' hk => ?_⟩
  have h' := (hk b hbb hbh hne).trans hb
  refine ⟨rfl, by simp, fun _ => ⟨_, rfl, fun j p hj => ?_⟩⟩
  cases j with
  | zero =>
    have hp : k = p := by simpa using hj
    subst hp
    refine ⟨_, rfl, k28_mk W' k hl (hR.2 W' hk), fun i u hu => ?_⟩
    rw [Nat.zero_mul, Nat.zero_add, Go.Proofs.YtglcajijmkianaaDoorW.PrintWords.add_plain, blk_cell h' i]
    simpa using hu
  | succ j => simp at hj
theorem Rk.two {W : World} {lo hi g b : Nat} {k m : S28} {A B : Option Addr} {c d : Nat} {t : TypeId} (hb : W.heap[b]? = some (.cells #[.int .i64 k.f0, .int .i64 k.f1.f0, .int .i64 k.f1.f1, .bool k.f1.f2.f0, .int .i64 k.f1.f2.f1, .string k.f1.f2.f2, .slice A k.f2.length c, .int .i64 m.f0, .int .i64 m.f1.f0, .int .i64 m.f1.f1, .bool m.f1.f2.f0, .int .i64 m.f1.f2.f1, .string m.f1.f2.f2, .slice B m.f2.length d] t (0, 0))) (hne : b ≠ g) (hbb : lo ≤ b) (hbh : b < hi) (hh : hi ≤ W.heap.size) (hl : k.f2.length ≤ c) (hR : Rk W lo hi g A k.f2) (hm : m.f2.length ≤ d) (hM : Rk W lo hi g B m.f2) : Rk W lo hi g (some ⟨b, 0, none⟩) [k, m] := by
  refine ⟨hh, fun W' hk => ?_⟩
  have h' := (hk b hbb hbh hne).trans hb
  refine ⟨rfl, by simp, fun _ => ⟨_, rfl, fun j p hj => ?_⟩⟩
  match j with
  | 0 =>
    have hp : k = p := by simpa using hj
    subst hp
    refine ⟨_, rfl, k28_mk W' k hl (hR.2 W' hk), fun i u hu => ?_⟩
    rw [Nat.zero_mul, Nat.zero_add, Go.Proofs.YtglcajijmkianaaDoorW.PrintWords.add_plain, blk_cell h' i]
    have hi : i < 7 := by
      have := (List.getElem?_eq_some_iff.1 hu).1
      simpa using this
    match i, hi with
    | 0, _ => simpa using hu
    | 1, _ => simpa using hu
    | 2, _ => simpa using hu
    | 3, _ => simpa using hu
    | 4, _ => simpa using hu
    | 5, _ => simpa using hu
    | 6, _ => simpa using hu
  | 1 =>
    have hp : m = p := by simpa using hj
    subst hp
    refine ⟨_, rfl, k28_mk W' m hm (hM.2 W' hk), fun i u hu => ?_⟩
    have hsz : k28.sz = 7 := rfl
    rw [hsz, Nat.one_mul, Go.Proofs.YtglcajijmkianaaDoorW.PrintWords.add_plain, blk_cell h' (7 + i)]
    have hi : i < 7 := by
      have := (List.getElem?_eq_some_iff.1 hu).1
      simpa using this
    match i, hi with
    | 0, _ => simpa using hu
    | 1, _ => simpa using hu
    | 2, _ => simpa using hu
    | 3, _ => simpa using hu
    | 4, _ => simpa using hu
    | 5, _ => simpa using hu
    | 6, _ => simpa using hu
  | j + 2 => simp at hj

def isS (w : ByteArray) (s : List UInt8) : Bool := decide (w.toList = s)
theorem isS_eq {w : ByteArray} {s : List UInt8} {b : Bool} (h : isS w s = b) : (w.toList == s) = b := by subst h; unfold isS; by_cases h : w.toList = s <;> simp [h]
theorem isS_ne {w : ByteArray} {s : List UInt8} {b : Bool} (h : isS w s = b) : (w.toList != s) = !b := by subst h; unfold isS; by_cases h : w.toList = s <;> simp [h]

def queryF : Nat → List ByteArray → Bool → S28 × List ByteArray × Bool
  | left, l, bad =>
    let r1 := nextF l bad
    if r1.2.2 = true then (z28, r1.2.1, true) else
    match left with
    | 0 => (z28, r1.2.1, true)
    | left + 1 =>
      if isS r1.1 [40] = false then (let a := askF r1.2.1 false r1.1; (⟨1, a.1, []⟩, a.2.1, a.2.2))
      else if (match r1.2.1 with | [] => false | x :: _ => isS x [110, 111, 116]) = true then
        let r2 := nextF r1.2.1 false
        let k := queryF left r2.2.1 r2.2.2
        let r3 := nextF k.2.1 k.2.2
        (⟨4, z25, [k.1]⟩, r3.2.1, r3.2.2 || !(isS r3.1 [41]))
      else
        let a := queryF left r1.2.1 false
        let r2 := nextF a.2.1 a.2.2
        if isS r2.1 [97, 110, 100] = true ∨ isS r2.1 [111, 114] = true then
          let b := queryF left r2.2.1 r2.2.2
          let r3 := nextF b.2.1 b.2.2
          (⟨if isS r2.1 [97, 110, 100] = true then 2 else 3, z25, [a.1, b.1]⟩, r3.2.1, r3.2.2 || !(isS r3.1 [41]))
        else (⟨2, z25, []⟩, r2.2.1, true)

/-- What a call of query says. -/
def QuerySaid (left : Nat) : Prop := ∀ (n : Int) (w0 w : World) (g : Nat) (l : List ByteArray) (bad : Bool), n = left → IsRd w0 w g l bad → Below w0.heap.size w0 w → Globs w0 →
  Calls Tryd.prog 31 #[.pointer (some ⟨g, 0, none⟩), .int .i64 n] w fun e w' => ∃ A c, e = .returned (.agg #[.int .i64 (queryF left l bad).1.f0, .int .i64 (queryF left l bad).1.f1.f0, .int .i64 (queryF left l bad).1.f1.f1, .bool (queryF left l bad).1.f1.f2.f0, .int .i64 (queryF left l bad).1.f1.f2.f1, .string (queryF left l bad).1.f1.f2.f2, .slice A (queryF left l bad).1.f2.length c]) ∧
    (queryF left l bad).1.f2.length ≤ c ∧ Rk w' w.heap.size w'.heap.size g A (queryF left l bad).1.f2 ∧ RdStep w0 w w' g (queryF left l bad).2.1 (queryF left l bad).2.2

/-- The end of a call of query, behind a name. -/
def QEnd (w0 w : World) (g : Nat) (q : S28 × List ByteArray × Bool) (e : Ending) (w' : World) : Prop := ∃ A c, e = .returned (.agg #[.int .i64 q.1.f0, .int .i64 q.1.f1.f0, .int .i64 q.1.f1.f1, .bool q.1.f1.f2.f0, .int .i64 q.1.f1.f2.f1, .string q.1.f1.f2.f2, .slice A q.1.f2.length c]) ∧
    q.1.f2.length ≤ c ∧ Rk w' w.heap.size w'.heap.size g A q.1.f2 ∧ RdStep w0 w w' g q.2.1 q.2.2

theorem IsRd.cells {w0 W : World} {g : Nat} {l : List ByteArray} {bad : Bool} (h : IsRd w0 W g l bad) : ∃ A c, W.cell? ⟨g, 0, none⟩ = some (.slice A l.length c) ∧ W.cell? ⟨g, 1, none⟩ = some (.bool bad) ∧ W.frozen? ⟨g, 1, none⟩ = false ∧ Kd.C Kd.string w0 A l.length l := by
  obtain ⟨A, c, hh, hg, hC, _⟩ := h
  exact ⟨A, c, (blk_cell hh 0).trans rfl, (blk_cell hh 1).trans rfl, blk_frozen hh 1, hC⟩

abbrev zero28 : Obj := .cells #[Value.int IntKind.i64 0, Value.int IntKind.i64 0, Value.int IntKind.i64 0, Value.bool false, Value.int IntKind.i64 0, Value.string { data := #[] }, Value.slice none 0 0] 28

set_option maxRecDepth 100000 in
set_option maxHeartbeats 16000000 in
/-- Where something is wrong, or there may be no more within one another. -/
theorem query_stop (left : Nat) (n : Int) (w0 w : World) (g : Nat) (l : List ByteArray) (bad : Bool) (hn : n = left) (hI : IsRd w0 w g l bad) (hB : Below w0.heap.size w0 w) (hstop : (nextF l bad).2.2 = true ∨ left = 0) :
    Calls Tryd.prog 31 #[.pointer (some ⟨g, 0, none⟩), .int .i64 n] w (QEnd w0 w g (z28, (nextF l bad).2.1, true)) := by
  have HI := Aside0.mk (RdStep.start hI hB)
  have HI00 := Aside0.mk hB.size
  have hu28 := Tryd.underlying28
  have hu25 := Tryd.underlying25
  have hu23 := Tryd.underlying23
  have hu61 := Tryd.underlying61
  have hgb := hI.lt
  have hnz : (nextF l bad).2.2 = true ∨ ((nextF l bad).2.2 = false ∧ (n == 0) = true) := by
    cases hx : (nextF l bad).2.2 with
    | true => exact .inl rfl
    | false => exact .inr ⟨rfl, by rcases hstop with h | h; · rw [hx] at h; cases h
                                   · subst h; subst hn; rfl⟩
  have hnext := fun W1 => next.calls w0 W1 g l bad
  generalize nextF l bad = r1 at hnz hnext ⊢
  obtain ⟨wd, l1, b1⟩ := r1
  have HNZ := Aside0.mk hnz
  have HNEXT := Aside0.mk hnext
  clear hI hB hn hstop hnz hnext
  go_enter Tryd.func31, Tryd.ntmps31
  go_wp2_with fail
  have K4 := blk_new w zero28
  have HI1 := HI.out.below (below_alloc (Below.refl _ _) zero28)
  generalize w.alloc _ = W1 at K4 HI1 ⊢
  generalize hb4 : w.heap.size = b4 at K4 hgb ⊢
  have n4 : b4 ≠ g := by omega
  have HI1 := Aside0.mk HI1
  have HN4 := Aside0.mk n4
  have K4 := Aside0.mk K4
  have HB4 := Aside0.mk hb4
  clear hb4 n4 hgb HI
  refine (HNEXT.out W1 HI1.out.1 HI1.out.2.1).mono ?_
  rintro e w2 ⟨rfl, hS⟩
  have HI2 := Aside0.mk (HI1.out.then hS)
  have K4b := Aside0.mk (hS.blk K4.out HN4.out)
  clear hS K4 HI1
  obtain ⟨A, c, g0, g1, gf, gC⟩ := HI2.out.1.cells
  have HS := Aside0.mk (HI2.out.then (set_rd HI2.out.1 HI2.out.2.1 true))
  have hk4 := K4b.out
  have q0 := (blk_cell hk4 0).trans rfl
  have q1 := (blk_cell hk4 1).trans rfl
  have q2 := (blk_cell hk4 2).trans rfl
  have q3 := (blk_cell hk4 3).trans rfl
  have q4 := (blk_cell hk4 4).trans rfl
  have q5 := (blk_cell hk4 5).trans rfl
  have q6 := (blk_cell hk4 6).trans rfl
  have z0 := blk_frozen hk4 0
  have z1 := blk_frozen hk4 1
  have z2 := blk_frozen hk4 2
  have z3 := blk_frozen hk4 3
  have z4 := blk_frozen hk4 4
  have z5 := blk_frozen hk4 5
  have z6 := blk_frozen hk4 6
  have n4 := HN4.out
  have n4' : g ≠ b4 := fun e => n4 e.symm
  have hge : w.heap.size ≤ b4 := by have := HB4.out; omega
  have hge0 : w0.heap.size ≤ b4 := Nat.le_trans HI00.out hge
  clear hk4 gC
  rcases HNZ.out with hb | ⟨hb, hn0⟩
  all_goals
    (try simp only at hb)
    subst hb
    go_wp2_with fail
    refine bodyPost_ret (v := .agg #[.int .i64 0, .int .i64 0, .int .i64 0, .bool false, .int .i64 0, .string ⟨#[]⟩, .slice none 0 0]) (by simp [results, Tryd.results31, go_sem, n4, n4', q0, q1, q2, q3, q4, q5, q6]) rfl ⟨none, 0, rfl, by simp [z28], Rk.nil _ _ _, ?_⟩
    iterate 7 refine RdStep.far ?_ HN4.out hge hge0 _
    exact HS.out

set_option maxRecDepth 100000 in
set_option maxHeartbeats 16000000 in
/-- Where it is an ask. -/
theorem query_ask (left : Nat) (n : Int) (w0 w : World) (g : Nat) (l : List ByteArray) (bad : Bool) (hn : n = left) (hl : left ≠ 0) (hI : IsRd w0 w g l bad) (hB : Below w0.heap.size w0 w) (hG : Globs w0) (hok : (nextF l bad).2.2 = false) (hw : isS (nextF l bad).1 [40] = false) :
    Calls Tryd.prog 31 #[.pointer (some ⟨g, 0, none⟩), .int .i64 n] w (QEnd w0 w g ((⟨1, (askF (nextF l bad).2.1 false (nextF l bad).1).1, []⟩, (askF (nextF l bad).2.1 false (nextF l bad).1).2.1, (askF (nextF l bad).2.1 false (nextF l bad).1).2.2) : S28 × List ByteArray × Bool)) := by
  have HI := Aside0.mk (RdStep.start hI hB)
  have HI00 := Aside0.mk hB.size
  have hu28 := Tryd.underlying28
  have hu25 := Tryd.underlying25
  have hu23 := Tryd.underlying23
  have hu61 := Tryd.underlying61
  have hgb := hI.lt
  have hn0 : (n == 0) = false := by subst hn; simp; omega
  have hnext := fun W1 => next.calls w0 W1 g l bad
  have hsz := nextF_size hI
  generalize nextF l bad = r1 at hok hw hnext hsz ⊢
  obtain ⟨wd, l1, b1⟩ := r1
  simp only at hok hw hsz
  subst hok
  have hask := fun W1 h1 h2 => ask.calls w0 W1 g l1 false wd h1 h2 hG hsz
  have e1 := isS_eq hw
  have e2 := isS_ne hw
  simp only [Bool.not_false] at e2
  show Calls _ _ _ _ (QEnd w0 w g ((⟨1, (askF l1 false wd).1, []⟩, (askF l1 false wd).2.1, (askF l1 false wd).2.2) : S28 × List ByteArray × Bool))
  generalize askF l1 false wd = res at hask ⊢
  obtain ⟨a, l2, b2⟩ := res
  have HASK := Aside0.mk hask
  have HNEXT := Aside0.mk hnext
  clear hI hB hn hnext hl hask hG hsz hw
  go_enter Tryd.func31, Tryd.ntmps31
  go_wp2_with fail
  have K4 := blk_new w zero28
  have HI1 := HI.out.below (below_alloc (Below.refl _ _) zero28)
  generalize w.alloc _ = W1 at K4 HI1 ⊢
  generalize hb4 : w.heap.size = b4 at K4 hgb ⊢
  have n4 : b4 ≠ g := by omega
  have HI1 := Aside0.mk HI1
  have HN4 := Aside0.mk n4
  have K4 := Aside0.mk K4
  have HB4 := Aside0.mk hb4
  clear hb4 n4 hgb HI
  refine (HNEXT.out W1 HI1.out.1 HI1.out.2.1).mono ?_
  rintro e w2 ⟨rfl, hS⟩
  have HI2 := Aside0.mk (HI1.out.then hS)
  have K4b := Aside0.mk (hS.blk K4.out HN4.out)
  clear hS K4 HI1 HNEXT
  obtain ⟨A, c, g0, g1, gf, gC⟩ := HI2.out.1.cells
  clear gC
  go_wp2_with fail
  refine (HASK.out w2 HI2.out.1 HI2.out.2.1).mono ?_
  rintro e w3 ⟨rfl, hS⟩
  have HI3 := Aside0.mk (HI2.out.then hS)
  have K4c := Aside0.mk (hS.blk K4b.out HN4.out)
  clear hS K4b HI2 g0 g1 gf HASK
  have hk4 := K4c.out
  have q0 := (blk_cell hk4 0).trans rfl
  have q1 := (blk_cell hk4 1).trans rfl
  have q2 := (blk_cell hk4 2).trans rfl
  have q3 := (blk_cell hk4 3).trans rfl
  have q4 := (blk_cell hk4 4).trans rfl
  have q5 := (blk_cell hk4 5).trans rfl
  have q6 := (blk_cell hk4 6).trans rfl
  have z0 := blk_frozen hk4 0
  have z1 := blk_frozen hk4 1
  have z2 := blk_frozen hk4 2
  have z3 := blk_frozen hk4 3
  have z4 := blk_frozen hk4 4
  have z5 := blk_frozen hk4 5
  have z6 := blk_frozen hk4 6
  have hge : w.heap.size ≤ b4 := by have := HB4.out; omega
  have hge0 : w0.heap.size ≤ b4 := Nat.le_trans HI00.out hge
  clear hk4
  go_wp2_with fail
  refine bodyPost_ret (v := .agg #[.int .i64 1, .int .i64 a.f0, .int .i64 a.f1, .bool a.f2.f0, .int .i64 a.f2.f1, .string a.f2.f2, .slice none 0 0]) (by simp [results, Tryd.results31, go_sem, q0, q1, q2, q3, q4, q5, q6]) rfl ⟨none, 0, rfl, by simp, Rk.nil _ _ _, ?_⟩
  iterate 7 refine RdStep.far ?_ HN4.out hge hge0 _
  exact HI3.out

set_option maxRecDepth 100000 in
set_option maxHeartbeats 16000000 in
/-- Where it is 'not'. -/
theorem query_not (left : Nat) (n : Int) (w0 w : World) (g : Nat) (l : List ByteArray) (bad : Bool) (hn : n = left + 1) (hl : left ≤ 1000) (hI : IsRd w0 w g l bad) (hB : Below w0.heap.size w0 w) (hG : Globs w0) (hok : (nextF l bad).2.2 = false) (hw : isS (nextF l bad).1 [40] = true)
    (x : ByteArray) (xs : List ByteArray) (hl1 : (nextF l bad).2.1 = x :: xs) (hx : isS x [110, 111, 116] = true) (ih : ∀ (n : Int) (w0 w : World) (g : Nat) (l : List ByteArray) (bad : Bool), n = left → IsRd w0 w g l bad → Below w0.heap.size w0 w → Globs w0 → Calls Tryd.prog 31 #[.pointer (some ⟨g, 0, none⟩), .int .i64 n] w (QEnd w0 w g (queryF left l bad))) :
    Calls Tryd.prog 31 #[.pointer (some ⟨g, 0, none⟩), .int .i64 n] w (QEnd w0 w g ((⟨4, z25, [(queryF left xs false).1]⟩, (nextF (queryF left xs false).2.1 (queryF left xs false).2.2).2.1, (nextF (queryF left xs false).2.1 (queryF left xs false).2.2).2.2 || !(isS (nextF (queryF left xs false).2.1 (queryF left xs false).2.2).1 [41])) : S28 × List ByteArray × Bool)) := by
  have HI := Aside0.mk (RdStep.start hI hB)
  have HI00 := Aside0.mk hB.size
  have hu28 := Tryd.underlying28
  have hu25 := Tryd.underlying25
  have hu23 := Tryd.underlying23
  have hu61 := Tryd.underlying61
  have hgb := hI.lt
  have hn0 : (n == 0) = false := by subst hn; simp; omega
  have hnlo : 1 ≤ n := by omega
  have hnhi : n ≤ 1001 := by omega
  have hnext := fun W1 => next.calls w0 W1 g l bad
  generalize nextF l bad = r1 at hok hw hnext hl1
  obtain ⟨wd, l1, b1⟩ := r1
  simp only at hok hw hl1
  subst hok hl1
  have e1 := isS_eq hw
  have e2 := isS_ne hw
  simp only [Bool.not_true] at e2
  have e3 := isS_eq hx
  have hq := fun W1 h1 h2 => ih (n - 1) w0 W1 g xs false (by omega) h1 h2 hG
  generalize queryF left xs false = k at hq ⊢
  obtain ⟨kq, l3, b3⟩ := k
  have hnext3 := fun W1 => next.calls w0 W1 g l3 b3
  show Calls _ _ _ _ (QEnd w0 w g ((⟨4, z25, [kq]⟩, (nextF l3 b3).2.1, (nextF l3 b3).2.2 || !(isS (nextF l3 b3).1 [41])) : S28 × List ByteArray × Bool))
  generalize nextF l3 b3 = r3 at hnext3 ⊢
  obtain ⟨wd3, l4, b4'⟩ := r3
  show Calls _ _ _ _ (QEnd w0 w g ((⟨4, z25, [kq]⟩, l4, b4' || !(isS wd3 [41])) : S28 × List ByteArray × Bool))
  obtain ⟨cl, hcl⟩ : ∃ c, isS wd3 [41] = c := ⟨_, rfl⟩
  have e4 := isS_eq hcl
  rw [hcl]
  have HNEXT := Aside0.mk hnext
  have HNEXT3 := Aside0.mk hnext3
  have HQ := Aside0.mk hq
  clear hI hB hn hnext hnext3 hq hG hw hx ih hcl
  go_enter Tryd.func31, Tryd.ntmps31
  go_wp2_with fail
  have K4 := blk_new w zero28
  have HI1 := HI.out.below (below_alloc (Below.refl _ _) zero28)
  generalize w.alloc _ = W1 at K4 HI1 ⊢
  generalize hb4 : w.heap.size = b4 at K4 hgb ⊢
  have n4 : b4 ≠ g := by omega
  have HI1 := Aside0.mk HI1
  have HN4 := Aside0.mk n4
  have K4 := Aside0.mk K4
  have HB4 := Aside0.mk hb4
  clear hb4 n4 hgb HI
  refine (HNEXT.out W1 HI1.out.1 HI1.out.2.1).mono ?_
  rintro e w2 ⟨rfl, hS⟩
  have HI2 := Aside0.mk (HI1.out.then hS)
  have K4b := Aside0.mk (hS.blk K4.out HN4.out)
  clear hS K4 HI1 HNEXT
  obtain ⟨A, c, g0, g1, gf, gC⟩ := HI2.out.1.cells
  obtain ⟨ad, cs, e, _, hK, hcell⟩ := Kd.C_get gC ByteArray.empty 0 (by omega) (by simp)
  cases e
  have hxx : cs = [.string x] := hK
  subst hxx
  have hw2 : w2.cell? ad = some (.string x) := by
    have := pw_cell_below HI2.out.2.1 (hcell 0 _ rfl)
    simpa [Addr.add] using this
  have hlen : (0 : Int) < ((x :: xs).length : Int) := by simp
  clear gC hK hcell
  generalize (x :: xs).length = m at hlen g0
  go_wp2_with fail
  refine (next.calls w0 w2 g (x :: xs) false HI2.out.1 HI2.out.2.1).mono ?_
  rintro e w3 ⟨rfl, hS⟩
  have HI3 : Aside0 (RdStep w0 w w3 g xs false) := ⟨HI2.out.then hS⟩
  have K4c := Aside0.mk (hS.blk K4b.out HN4.out)
  clear hS K4b HI2 g0 g1 gf hw2 hlen
  go_wp2_with fail
  refine (HQ.out w3 HI3.out.1 HI3.out.2.1).mono ?_
  rintro e w4 ⟨A5, c5, rfl, l5, R5, hS⟩
  have HI4 := Aside0.mk (HI3.out.then hS)
  have K4d := Aside0.mk (hS.blk K4c.out HN4.out)
  have R5 := Aside0.mk R5
  have H43 := blk_lt K4c.out
  have L5 := Aside0.mk l5
  clear hS K4c HI3 HQ l5
  go_wp2_with fail
  have K6 := blk_new w4 (Obj.cells #[.int .i64 kq.f0, .int .i64 kq.f1.f0, .int .i64 kq.f1.f1, .bool kq.f1.f2.f0, .int .i64 kq.f1.f2.f1, .string kq.f1.f2.f2, .slice A5 kq.f2.length c5] 28)
  have HB6 := below_alloc (Below.refl _ w4) (Obj.cells #[.int .i64 kq.f0, .int .i64 kq.f1.f0, .int .i64 kq.f1.f1, .bool kq.f1.f2.f0, .int .i64 kq.f1.f2.f1, .string kq.f1.f2.f2, .slice A5 kq.f2.length c5] 28)
  have HI5 := HI4.out.below HB6
  have R5b := R5.out.below HB6
  have K4e := (HB6.block _ (blk_lt K4d.out)).trans K4d.out
  have hg4 := HI4.out.1.lt
  have h44 := blk_lt K4d.out
  clear HB6 R5
  generalize w4.alloc _ = W5 at K6 HI5 K4e R5b ⊢
  generalize hb6 : w4.heap.size = b6 at K6 hg4 h44 ⊢
  have n6 : b6 ≠ g := by omega
  have n46 : b4 ≠ b6 := by omega
  have HI5 := Aside0.mk HI5
  have HN6 := Aside0.mk n6
  have HN46 := Aside0.mk n46
  have K6 := Aside0.mk K6
  have K4e := Aside0.mk K4e
  have R5b := Aside0.mk R5b
  clear hb6 n6 n46 hg4 h44 HI4 K4d
  refine (HNEXT3.out W5 HI5.out.1 HI5.out.2.1).mono ?_
  rintro e w6 ⟨rfl, hS⟩
  have HI6 := Aside0.mk (HI5.out.then hS)
  have K4f := Aside0.mk (hS.blk K4e.out HN4.out)
  have K6f := Aside0.mk (hS.blk K6.out HN6.out)
  have R5f := Aside0.mk (R5b.out.but hS.2.2)
  clear hS K4e K6 HI5 HNEXT3 R5b
  go_wp2_with fail
  refine (must.calls w0 w6 g l4 _ _ HI6.out.1 HI6.out.2.1).mono ?_
  rintro e w7 ⟨rfl, hS⟩
  have HI7 := Aside0.mk (HI6.out.then hS)
  have K4g := Aside0.mk (hS.blk K4f.out HN4.out)
  have K6g := Aside0.mk (hS.blk K6f.out HN6.out)
  have R5g := Aside0.mk (R5f.out.but hS.2.2)
  clear hS K4f K6f HI6 R5f
  have hk4 := K4g.out
  have q0 := (blk_cell hk4 0).trans rfl
  have q1 := (blk_cell hk4 1).trans rfl
  have q2 := (blk_cell hk4 2).trans rfl
  have q3 := (blk_cell hk4 3).trans rfl
  have q4 := (blk_cell hk4 4).trans rfl
  have q5 := (blk_cell hk4 5).trans rfl
  have q6 := (blk_cell hk4 6).trans rfl
  have z0 := blk_frozen hk4 0
  have z1 := blk_frozen hk4 1
  have z2 := blk_frozen hk4 2
  have z3 := blk_frozen hk4 3
  have z4 := blk_frozen hk4 4
  have z5 := blk_frozen hk4 5
  have z6 := blk_frozen hk4 6
  have hk6 := K6g.out
  have p0 := (blk_cell hk6 0).trans rfl
  have p1 := (blk_cell hk6 1).trans rfl
  have p2 := (blk_cell hk6 2).trans rfl
  have p3 := (blk_cell hk6 3).trans rfl
  have p4 := (blk_cell hk6 4).trans rfl
  have p5 := (blk_cell hk6 5).trans rfl
  have p6 := (blk_cell hk6 6).trans rfl
  have hlt := blk_lt hk4
  have hlt6 := blk_lt hk6
  have hltg := HI7.out.1.lt
  have hge : w.heap.size ≤ b4 := by have := HB4.out; omega
  have hge0 : w0.heap.size ≤ b4 := Nat.le_trans HI00.out hge
  clear hk4 hk6
  go_wp2_with fail
  refine bodyPost_ret (v := .agg #[.int .i64 4, .int .i64 0, .int .i64 0, .bool false, .int .i64 0, .string ⟨#[]⟩, .slice (some ⟨w7.heap.size, 0, none⟩) 1 1]) (by simp [results, Tryd.results31, go_sem, hlt, q0, q1, q2, q3, q4, q5, q6]) rfl ⟨some ⟨w7.heap.size, 0, none⟩, 1, rfl, by simp, ?_, ?_⟩
  · refine Rk.one (blk_new_at _ _ _ (by simp [World.setCell])) (by omega) (by omega) (by simp [World.setCell]) (Nat.le_refl _) L5.out ?_
    refine Rk.widen (lo := w3.heap.size) (hi := w4.heap.size) ?_ (by omega) (by have := R5g.out.1; simp [World.setCell]; omega) (Nat.le_refl _)
    refine Rk.below ?_ (below_alloc (Below.refl _ _) _)
    iterate 7 refine Rk.set ?_ (.inl H43) _
    exact R5g.out
  · refine RdStep.below ?_ (below_alloc (Below.refl _ _) _)
    iterate 7 refine RdStep.far ?_ HN4.out hge hge0 _
    exact HI7.out
set_option maxRecDepth 100000 in
set_option maxHeartbeats 32000000 in
/-- Where it is two queries. -/
theorem query_two (left : Nat) (n : Int) (w0 w : World) (g : Nat) (l : List ByteArray) (bad : Bool) (hn : n = left + 1) (hl : left ≤ 1000) (hI : IsRd w0 w g l bad) (hB : Below w0.heap.size w0 w) (hG : Globs w0) (hok : (nextF l bad).2.2 = false) (hw : isS (nextF l bad).1 [40] = true)
    (hx : (match (nextF l bad).2.1 with | [] => false | x :: _ => isS x [110, 111, 116]) = false) (ih : ∀ (n : Int) (w0 w : World) (g : Nat) (l : List ByteArray) (bad : Bool), n = left → IsRd w0 w g l bad → Below w0.heap.size w0 w → Globs w0 → Calls Tryd.prog 31 #[.pointer (some ⟨g, 0, none⟩), .int .i64 n] w (QEnd w0 w g (queryF left l bad))) (res : S28 × List ByteArray × Bool)
    (hres : res = (let a := queryF left (nextF l bad).2.1 false
        let r2 := nextF a.2.1 a.2.2
        if isS r2.1 [97, 110, 100] = true ∨ isS r2.1 [111, 114] = true then
          let b := queryF left r2.2.1 r2.2.2
          let r3 := nextF b.2.1 b.2.2
          (⟨if isS r2.1 [97, 110, 100] = true then 2 else 3, z25, [a.1, b.1]⟩, r3.2.1, r3.2.2 || !(isS r3.1 [41]))
        else (⟨2, z25, []⟩, r2.2.1, true))) :
    Calls Tryd.prog 31 #[.pointer (some ⟨g, 0, none⟩), .int .i64 n] w (QEnd w0 w g res) := by
  have HI := Aside0.mk (RdStep.start hI hB)
  have HI00 := Aside0.mk hB.size
  have hu28 := Tryd.underlying28
  have hu25 := Tryd.underlying25
  have hu23 := Tryd.underlying23
  have hu61 := Tryd.underlying61
  have hgb := hI.lt
  have hn0 : (n == 0) = false := by subst hn; simp; omega
  have hnlo : 1 ≤ n := by omega
  have hnhi : n ≤ 1001 := by omega
  have hnext := fun W1 => next.calls w0 W1 g l bad
  generalize nextF l bad = r1 at hok hw hnext hx hres
  obtain ⟨wd, l1, b1⟩ := r1
  simp only at hok hw hx hres
  subst hok
  have e1 := isS_eq hw
  have e2 := isS_ne hw
  simp only [Bool.not_true] at e2
  have hq := fun W1 h1 h2 => ih (n - 1) w0 W1 g l1 false (by omega) h1 h2 hG
  generalize queryF left l1 false = k at hq hres
  obtain ⟨kq, l3, b3⟩ := k
  simp only at hres
  have hnext3 := fun W1 => next.calls w0 W1 g l3 b3
  generalize nextF l3 b3 = r3 at hnext3 hres
  obtain ⟨wd3, l4, b4'⟩ := r3
  simp only at hres
  have hq2 := fun W1 h1 h2 => ih (n - 1) w0 W1 g l4 b4' (by omega) h1 h2 hG
  generalize queryF left l4 b4' = k2 at hq2 hres
  obtain ⟨kq2, l5, b5⟩ := k2
  simp only at hres
  have hnext5 := fun W1 => next.calls w0 W1 g l5 b5
  generalize nextF l5 b5 = r5 at hnext5 hres
  obtain ⟨wd5, l6, b6'⟩ := r5
  simp only at hres
  obtain ⟨cl, hcl⟩ : ∃ c, isS wd5 [41] = c := ⟨_, rfl⟩
  have e4 := isS_eq hcl
  rw [hcl] at hres
  have HRES := Aside0.mk hres
  have HNEXT := Aside0.mk hnext
  have HNEXT3 := Aside0.mk hnext3
  have HNEXT5 := Aside0.mk hnext5
  have HQ := Aside0.mk hq
  have HQ2 := Aside0.mk hq2
  have HX := Aside0.mk hx
  have HWR : Aside0 (IntKind.i64.wrap (n - 1) = n - 1) := ⟨IntWalk.i64_in _ (by omega)⟩
  clear hI hB hn hnext hnext3 hnext5 hq hq2 hG hw hx ih hcl hres
  go_enter Tryd.func31, Tryd.ntmps31
  go_wp2_with fail
  have K4 := blk_new w zero28
  have HI1 := HI.out.below (below_alloc (Below.refl _ _) zero28)
  generalize w.alloc _ = W1 at K4 HI1 ⊢
  generalize hb4 : w.heap.size = b4 at K4 hgb ⊢
  have n4 : b4 ≠ g := by omega
  have HI1 := Aside0.mk HI1
  have HN4 := Aside0.mk n4
  have K4 := Aside0.mk K4
  have HB4 := Aside0.mk hb4
  clear hb4 n4 hgb HI
  refine (HNEXT.out W1 HI1.out.1 HI1.out.2.1).mono ?_
  rintro e w2 ⟨rfl, hS⟩
  have HI2 := Aside0.mk (HI1.out.then hS)
  have K4b := Aside0.mk (hS.blk K4.out HN4.out)
  clear hS K4 HI1 HNEXT
  obtain ⟨A, c, g0, g1, gf, gC⟩ := HI2.out.1.cells
  have hway : (l1 = []) ∨ (∃ ad x, A = some ad ∧ w2.cell? ad = some (.string x) ∧ (0 : Int) < (l1.length : Int) ∧ (x.toList == [110, 111, 116]) = false) := by
    cases l1 with
    | nil => exact .inl rfl
    | cons x xs =>
      obtain ⟨ad, cs, e, _, hK, hcell⟩ := Kd.C_get gC ByteArray.empty 0 (by omega) (by simp)
      have hxx : cs = [.string x] := hK
      subst hxx
      exact .inr ⟨ad, x, e, by have := pw_cell_below HI2.out.2.1 (hcell 0 _ rfl); simpa [Addr.add] using this, by simp, isS_eq HX.out⟩
  have HWAY := Aside0.mk hway
  clear gC hway HX
  rcases HWAY.out with hnil | ⟨ad, x, ea, hcx, hl0, hxn⟩
  all_goals
    (try subst ea)
    (try subst hnil)
    (try clear HWAY)
    first | (generalize l1.length = m at hl0 g0) | (simp only [List.length_nil] at g0)
    go_wp2_with fail
    refine (HQ.out w2 HI2.out.1 HI2.out.2.1).mono ?_
    rintro e w4 ⟨A5, c5, rfl, l5', R5, hS⟩
    have HI4 := Aside0.mk (HI2.out.then hS)
    have K4d := Aside0.mk (hS.blk K4b.out HN4.out)
    have H43 := Aside0.mk (blk_lt K4b.out)
    have H24 := Aside0.mk hS.globs_le
    have R5 := Aside0.mk R5
    have L5 := Aside0.mk l5'
    clear hS K4b HI2 HQ l5' g0 g1 gf
    (try clear hcx hxn hl0)
    go_wp2_with fail
    have B7 := below_alloc (Below.refl _ w4) (Obj.cells #[.int .i64 kq.f0, .int .i64 kq.f1.f0, .int .i64 kq.f1.f1, .bool kq.f1.f2.f0, .int .i64 kq.f1.f2.f1, .string kq.f1.f2.f2, .slice A5 kq.f2.length c5] 28)
    have B8 := below_alloc (Below.refl _ (w4.alloc (Obj.cells #[.int .i64 kq.f0, .int .i64 kq.f1.f0, .int .i64 kq.f1.f1, .bool kq.f1.f2.f0, .int .i64 kq.f1.f2.f1, .string kq.f1.f2.f2, .slice A5 kq.f2.length c5] 28))) (Obj.cells #[.int .i64 2, .int .i64 0, .int .i64 0, .bool false, .int .i64 0, .string ⟨#[]⟩, .slice none 0 0] 28)
    have K7 := (B8.block _ (blk_lt (blk_new w4 (Obj.cells #[.int .i64 kq.f0, .int .i64 kq.f1.f0, .int .i64 kq.f1.f1, .bool kq.f1.f2.f0, .int .i64 kq.f1.f2.f1, .string kq.f1.f2.f2, .slice A5 kq.f2.length c5] 28)))).trans (blk_new w4 (Obj.cells #[.int .i64 kq.f0, .int .i64 kq.f1.f0, .int .i64 kq.f1.f1, .bool kq.f1.f2.f0, .int .i64 kq.f1.f2.f1, .string kq.f1.f2.f2, .slice A5 kq.f2.length c5] 28))
    have K8 := blk_new (w4.alloc (Obj.cells #[.int .i64 kq.f0, .int .i64 kq.f1.f0, .int .i64 kq.f1.f1, .bool kq.f1.f2.f0, .int .i64 kq.f1.f2.f1, .string kq.f1.f2.f2, .slice A5 kq.f2.length c5] 28)) (Obj.cells #[.int .i64 2, .int .i64 0, .int .i64 0, .bool false, .int .i64 0, .string ⟨#[]⟩, .slice none 0 0] 28)
    have hs8 : (w4.alloc (Obj.cells #[.int .i64 kq.f0, .int .i64 kq.f1.f0, .int .i64 kq.f1.f1, .bool kq.f1.f2.f0, .int .i64 kq.f1.f2.f1, .string kq.f1.f2.f2, .slice A5 kq.f2.length c5] 28)).heap.size = w4.heap.size + 1 := by simp
    rw [hs8] at K8
    have HB8 := B7.trans (B8.mono (by simp))
    have HI5 := HI4.out.below HB8
    have R5b := R5.out.below HB8
    have K4e := (HB8.block _ (blk_lt K4d.out)).trans K4d.out
    have hg4 := HI4.out.1.lt
    have h44 := blk_lt K4d.out
    clear HB8 R5 B7 B8 hs8
    generalize (w4.alloc _).alloc _ = W5 at K7 K8 HI5 K4e R5b ⊢
    generalize hb7 : w4.heap.size = b7 at K7 K8 hg4 h44 ⊢
    have n7 : b7 ≠ g := by omega
    have n8 : b7 + 1 ≠ g := by omega
    have n47 : b4 < b7 := by omega
    have HI5 := Aside0.mk HI5
    have HN7 := Aside0.mk n7
    have HN8 := Aside0.mk n8
    have HN47 := Aside0.mk n47
    have K7 := Aside0.mk K7
    have K8 := Aside0.mk K8
    have K4e := Aside0.mk K4e
    have R5b := Aside0.mk R5b
    have H27 : Aside0 (w2.heap.size ≤ b7) := ⟨by have := H24.out; omega⟩
    have HB7 := Aside0.mk hb7
    clear hb7 n7 n8 n47 hg4 h44 HI4 K4d
    refine (HNEXT3.out W5 HI5.out.1 HI5.out.2.1).mono ?_
    rintro e w6 ⟨rfl, hS⟩
    have HI6 := Aside0.mk (HI5.out.then hS)
    have K4f := Aside0.mk (hS.blk K4e.out HN4.out)
    have K7f := Aside0.mk (hS.blk K7.out HN7.out)
    have K8f := Aside0.mk (hS.blk K8.out HN8.out)
    have R5f := Aside0.mk (R5b.out.but hS.2.2)
    clear hS K4e K7 K8 HI5 HNEXT3 R5b
    obtain ⟨isand, hand⟩ : ∃ c, isS wd3 [97, 110, 100] = c := ⟨_, rfl⟩
    obtain ⟨isor, hor⟩ : ∃ c, isS wd3 [111, 114] = c := ⟨_, rfl⟩
    have a1 := isS_eq hand
    have a2 := isS_eq hor
    rw [hand, hor] at HRES
    clear hand hor
    have hge : w.heap.size ≤ b4 := by have := HB4.out; omega
    have hge0 : w0.heap.size ≤ b4 := Nat.le_trans HI00.out hge
    have HGE := Aside0.mk hge
    have HGE0 := Aside0.mk hge0
    have hge8 : w.heap.size ≤ b7 + 1 := by have := HN47.out; omega
    have HGE8 := Aside0.mk hge8
    clear hge hge0 hge8
    cases isand with
    | false =>
      cases isor with
      | false =>
        have HRES2 : Aside0 (res = (⟨2, z25, []⟩, l4, true)) := ⟨by rw [HRES.out]; rfl⟩
        obtain ⟨A2, c2, g0, g1, gf, gC⟩ := HI6.out.1.cells
        have HS := Aside0.mk (HI6.out.then (set_rd HI6.out.1 HI6.out.2.1 true))
        clear HRES gC
        have hk4 := K4f.out
        have q0 := (blk_cell hk4 0).trans rfl
        have q1 := (blk_cell hk4 1).trans rfl
        have q2 := (blk_cell hk4 2).trans rfl
        have q3 := (blk_cell hk4 3).trans rfl
        have q4 := (blk_cell hk4 4).trans rfl
        have q5 := (blk_cell hk4 5).trans rfl
        have q6 := (blk_cell hk4 6).trans rfl
        have z0 := blk_frozen hk4 0
        have z1 := blk_frozen hk4 1
        have z2 := blk_frozen hk4 2
        have z3 := blk_frozen hk4 3
        have z4 := blk_frozen hk4 4
        have z5 := blk_frozen hk4 5
        have z6 := blk_frozen hk4 6
        have hk8 := K8f.out
        have p0 := (blk_cell hk8 0).trans rfl
        have p1 := (blk_cell hk8 1).trans rfl
        have p2 := (blk_cell hk8 2).trans rfl
        have p3 := (blk_cell hk8 3).trans rfl
        have p4 := (blk_cell hk8 4).trans rfl
        have p5 := (blk_cell hk8 5).trans rfl
        have p6 := (blk_cell hk8 6).trans rfl
        have n4 := HN4.out
        have n4' : g ≠ b4 := fun e => n4 e.symm
        have n8 := HN8.out
        have n8' : g ≠ b7 + 1 := fun e => n8 e.symm
        clear hk4 hk8
        go_wp2_with fail
        refine bodyPost_ret (v := .agg #[.int .i64 2, .int .i64 0, .int .i64 0, .bool false, .int .i64 0, .string ⟨#[]⟩, .slice none 0 0]) (by simp [results, Tryd.results31, go_sem, n4, n4', q0, q1, q2, q3, q4, q5, q6]) rfl ?_
        rw [HRES2.out]
        refine ⟨none, 0, rfl, by simp, Rk.nil _ _ _, ?_⟩
        iterate 7 refine RdStep.far ?_ HN4.out HGE.out HGE0.out _
        exact HS.out
      | true =>
        have n48 : b4 ≠ b7 + 1 := by have := HN47.out; omega
        have hk8 := K8f.out
        have y0 := (blk_cell hk8 0).trans rfl
        have u0 := blk_frozen hk8 0
        have K8p : (w6.setCell ⟨b7 + 1, 0, none⟩ (.int .i64 3)).heap[b7 + 1]? = some (.cells #[.int .i64 3, .int .i64 0, .int .i64 0, .bool false, .int .i64 0, .string ⟨#[]⟩, .slice none 0 0] 28 (0, 0)) := blk_set hk8 0 _
        have K4p := blk_far (p := ⟨b7 + 1, 0, none⟩) K4f.out n48 (.int .i64 3)
        have K7p := blk_far (p := ⟨b7 + 1, 0, none⟩) K7f.out (Nat.ne_of_lt (Nat.lt_succ_self b7)) (.int .i64 3)
        have HI6p := HI6.out.far (p := ⟨b7 + 1, 0, none⟩) HN8.out HGE8.out (Nat.le_trans HI00.out HGE8.out) (.int .i64 3)
        have R5p := R5f.out.set (p := ⟨b7 + 1, 0, none⟩) (.inr (by have := HB7.out; show w4.heap.size ≤ b7 + 1; omega)) (.int .i64 3)
        clear hk8 K8f K4f K7f HI6 R5f n48
        have K8f := Aside0.mk K8p
        have K4f := Aside0.mk K4p
        have K7f := Aside0.mk K7p
        have HI6 := Aside0.mk HI6p
        have R5f := Aside0.mk R5p
        clear K8p K4p K7p HI6p R5p
        go_wp2_with fail
        clear y0 u0
        generalize w6.setCell _ _ = w6x at K8f K4f K7f HI6 R5f ⊢
        have hk7 := K7f.out
        have p0 := (blk_cell hk7 0).trans rfl
        have p1 := (blk_cell hk7 1).trans rfl
        have p2 := (blk_cell hk7 2).trans rfl
        have p3 := (blk_cell hk7 3).trans rfl
        have p4 := (blk_cell hk7 4).trans rfl
        have p5 := (blk_cell hk7 5).trans rfl
        have p6 := (blk_cell hk7 6).trans rfl
        clear hk7
        go_region_held3 (fun w' => w'.cell? ⟨b7, 0, none⟩ = some (.int .i64 kq.f0) ∧ w'.cell? ⟨b7, 1, none⟩ = some (.int .i64 kq.f1.f0) ∧ w'.cell? ⟨b7, 2, none⟩ = some (.int .i64 kq.f1.f1) ∧ w'.cell? ⟨b7, 3, none⟩ = some (.bool kq.f1.f2.f0) ∧ w'.cell? ⟨b7, 4, none⟩ = some (.int .i64 kq.f1.f2.f1) ∧ w'.cell? ⟨b7, 5, none⟩ = some (.string kq.f1.f2.f2) ∧ w'.cell? ⟨b7, 6, none⟩ = some (.slice A5 kq.f2.length c5))
          ((repeat' apply And.intro) <;> (first | assumption | exact RdStep.cell hS (by assumption) HN7.out | exact cell_far_alloc (by first | assumption | (simp only [*]; done)) (by omega) | go_keep))
          (first | (go_at_call 31; rw [HWR.out]; refine (HQ2.out _ (IsRd.below HI6.out.1 (below_drew (Below.refl _ _))) (below_drew HI6.out.2.1)).mono ?_; rintro e w7 ⟨A6, c6, rfl, l6', R6, hS⟩; (have K8g := hS.blk (show (w6x.drew).heap[b7 + 1]? = _ from K8f.out) HN8.out); (have K7g := hS.blk (show (w6x.drew).heap[b7]? = _ from K7f.out) HN7.out); (have r0 := (blk_cell K7g 0).trans rfl); (have r1 := (blk_cell K7g 1).trans rfl); (have r2 := (blk_cell K7g 2).trans rfl); (have r3 := (blk_cell K7g 3).trans rfl); (have r4 := (blk_cell K7g 4).trans rfl); (have r5 := (blk_cell K7g 5).trans rfl); (have r6 := (blk_cell K7g 6).trans rfl); clear K7g; (have y6 := (blk_cell K8g 6).trans rfl); (have u6 := blk_frozen K8g 6); (have hb78 := blk_lt K8g); (have hb77 : b7 < w7.heap.size := Nat.lt_of_succ_lt hb78); clear K8g))
        all_goals
          have HI7 := (HI6.out.below (below_drew (Below.refl _ _))).then hS
          have K4g := hS.blk (show (w6x.drew).heap[b4]? = _ from K4f.out) HN4.out
          have K8g := hS.blk (show (w6x.drew).heap[b7 + 1]? = _ from K8f.out) HN8.out
          have R5g := Rk.but (Rk.below R5f.out (below_drew (Below.refl _ _))) hS.2.2
          have h67 : w6x.heap.size ≤ w7.heap.size := hS.globs_le
          have h46 := blk_lt K4f.out
          have h76 := blk_lt K7f.out
          have hb78' := blk_lt K8f.out
          clear hS y6 u6 hb77 r0 r1 r2 r3 r4 r5 r6 p0 p1 p2 p3 p4 p5 p6
          go_wp2_with fail
          have K9 := blk_new_at (w7.setCell ⟨b7 + 1, 6, none⟩ (Value.slice (some ⟨w7.heap.size, 0, none⟩) 2 2)) (Obj.cells #[.int .i64 kq.f0, .int .i64 kq.f1.f0, .int .i64 kq.f1.f1, .bool kq.f1.f2.f0, .int .i64 kq.f1.f2.f1, .string kq.f1.f2.f2, .slice A5 kq.f2.length c5, .int .i64 kq2.f0, .int .i64 kq2.f1.f0, .int .i64 kq2.f1.f1, .bool kq2.f1.f2.f0, .int .i64 kq2.f1.f2.f1, .string kq2.f1.f2.f2, .slice A6 kq2.f2.length c6] 28) w7.heap.size (by simp [World.setCell])
          have BA := below_alloc (Below.refl _ (w7.setCell ⟨b7 + 1, 6, none⟩ (Value.slice (some ⟨w7.heap.size, 0, none⟩) 2 2))) (Obj.cells #[.int .i64 kq.f0, .int .i64 kq.f1.f0, .int .i64 kq.f1.f1, .bool kq.f1.f2.f0, .int .i64 kq.f1.f2.f1, .string kq.f1.f2.f2, .slice A5 kq.f2.length c5, .int .i64 kq2.f0, .int .i64 kq2.f1.f0, .int .i64 kq2.f1.f1, .bool kq2.f1.f2.f0, .int .i64 kq2.f1.f2.f1, .string kq2.f1.f2.f2, .slice A6 kq2.f2.length c6] 28)
          have K8s : (w7.setCell ⟨b7 + 1, 6, none⟩ (Value.slice (some ⟨w7.heap.size, 0, none⟩) 2 2)).heap[b7 + 1]? = some (.cells #[.int .i64 3, .int .i64 0, .int .i64 0, .bool false, .int .i64 0, .string ⟨#[]⟩, (Value.slice (some ⟨w7.heap.size, 0, none⟩) 2 2)] 28 (0, 0)) := blk_set K8g 6 _
          have K8h := (BA.block _ (blk_lt K8s)).trans K8s
          have n48 : b4 ≠ b7 + 1 := by have := HN47.out; omega
          have K4s := blk_far (p := ⟨b7 + 1, 6, none⟩) K4g n48 (Value.slice (some ⟨w7.heap.size, 0, none⟩) 2 2)
          have K4h := (BA.block _ (blk_lt K4s)).trans K4s
          have HGE8b := Nat.le_trans HI00.out HGE8.out
          have HI8 := (HI7.far (p := ⟨b7 + 1, 6, none⟩) HN8.out HGE8.out HGE8b (Value.slice (some ⟨w7.heap.size, 0, none⟩) 2 2)).below BA
          have R5h := (R5g.set (p := ⟨b7 + 1, 6, none⟩) (.inr (by have := HB7.out; show w4.heap.size ≤ b7 + 1; omega)) (Value.slice (some ⟨w7.heap.size, 0, none⟩) 2 2)).below BA
          have R6h := (R6.set (p := ⟨b7 + 1, 6, none⟩) (.inl (by show b7 + 1 < w6x.heap.size; omega)) (Value.slice (some ⟨w7.heap.size, 0, none⟩) 2 2)).below BA
          have R5h := Aside0.mk R5h
          have R6h := Aside0.mk R6h
          have L6 := Aside0.mk l6'
          have K9 := Aside0.mk K9
          have K8h := Aside0.mk K8h
          have K4h := Aside0.mk K4h
          have HI8 := Aside0.mk HI8
          have hn9 : w7.heap.size ≠ g := by have := HI7.1.lt; omega
          have HN9 := Aside0.mk hn9
          have H49 : Aside0 (b4 < w7.heap.size) := ⟨by omega⟩
          have H67 := Aside0.mk h67
          have H78 : Aside0 (b7 + 1 < w6x.heap.size) := ⟨hb78'⟩
          have HW67 : Aside0 (w2.heap.size ≤ w7.heap.size) := ⟨by have := H27.out; omega⟩
          generalize (w7.setCell _ _).alloc _ = W8 at K9 K8h K4h HI8 R5h R6h ⊢
          clear BA K8s K4s K4g K8g R5g R6 l6' HI7 hn9 h67 h46 h76 hb78 hb78' n48
          refine (HNEXT5.out W8 HI8.out.1 HI8.out.2.1).mono ?_
          rintro e w9 ⟨rfl, hS⟩
          have HI9 := Aside0.mk (HI8.out.then hS)
          have K4i := Aside0.mk (hS.blk K4h.out HN4.out)
          have K8i := Aside0.mk (hS.blk K8h.out HN8.out)
          have K9i := Aside0.mk (hS.blk K9.out HN9.out)
          have R5i := Aside0.mk (R5h.out.but hS.2.2)
          have R6i := Aside0.mk (R6h.out.but hS.2.2)
          clear hS K4h K8h K9 R5h R6h HI8
          go_wp2_with fail
          refine (must.calls w0 w9 g l6 _ _ HI9.out.1 HI9.out.2.1).mono ?_
          rintro e w10 ⟨rfl, hS⟩
          have HI10 := Aside0.mk (HI9.out.then hS)
          have K4j := Aside0.mk (hS.blk K4i.out HN4.out)
          have K8j := Aside0.mk (hS.blk K8i.out HN8.out)
          have K9j := Aside0.mk (hS.blk K9i.out HN9.out)
          have R5j := Aside0.mk (R5i.out.but hS.2.2)
          have R6j := Aside0.mk (R6i.out.but hS.2.2)
          clear hS K4i K8i K9i R5i R6i HI9
          have hk4 := K4j.out
          have q0 := (blk_cell hk4 0).trans rfl
          have q1 := (blk_cell hk4 1).trans rfl
          have q2 := (blk_cell hk4 2).trans rfl
          have q3 := (blk_cell hk4 3).trans rfl
          have q4 := (blk_cell hk4 4).trans rfl
          have q5 := (blk_cell hk4 5).trans rfl
          have q6 := (blk_cell hk4 6).trans rfl
          have z0 := blk_frozen hk4 0
          have z1 := blk_frozen hk4 1
          have z2 := blk_frozen hk4 2
          have z3 := blk_frozen hk4 3
          have z4 := blk_frozen hk4 4
          have z5 := blk_frozen hk4 5
          have z6 := blk_frozen hk4 6
          have hk8 := K8j.out
          have p0 := (blk_cell hk8 0).trans rfl
          have p1 := (blk_cell hk8 1).trans rfl
          have p2 := (blk_cell hk8 2).trans rfl
          have p3 := (blk_cell hk8 3).trans rfl
          have p4 := (blk_cell hk8 4).trans rfl
          have p5 := (blk_cell hk8 5).trans rfl
          have p6 := (blk_cell hk8 6).trans rfl
          clear hk4 hk8
          have hlt4 := blk_lt K4j.out
          go_wp2_with fail
          refine bodyPost_ret (v := .agg #[.int .i64 3, .int .i64 0, .int .i64 0, .bool false, .int .i64 0, .string ⟨#[]⟩, .slice (some ⟨w7.heap.size, 0, none⟩) 2 2]) (by simp [results, Tryd.results31, go_sem, q0, q1, q2, q3, q4, q5, q6]) rfl ?_
          have hr : res = (⟨3, z25, [kq, kq2]⟩, l6, b6' || !cl) := by rw [HRES.out]; rfl
          rw [hr]
          have hsz := blk_lt K9j.out
          have e27 := H27.out
          have e43 := H43.out
          refine ⟨some ⟨w7.heap.size, 0, none⟩, 2, rfl, by simp, ?_, ?_⟩
          · refine Rk.two (t := 28) (A := A5) (B := A6) (c := c5) (d := c6) ?_ HN9.out (by have := HGE.out; have := H49.out; omega) (by simp [World.setCell]; exact hsz) (Nat.le_refl _) L5.out ?_ L6.out ?_
            · iterate 7 refine blk_far ?_ (Nat.ne_of_gt H49.out) _
              exact K9j.out
            · refine Rk.widen (lo := w2.heap.size) (hi := w4.heap.size) ?_ (by have := HGE.out; omega) (by have := R5j.out.1; simpa [World.setCell] using this) (Nat.le_refl _)
              iterate 7 refine Rk.set ?_ (.inl e43) _
              exact R5j.out
            · refine Rk.widen (lo := w6x.heap.size) (hi := w7.heap.size) ?_ (by have := HGE.out; have := H78.out; have := HN47.out; omega) (by have := R6j.out.1; simpa [World.setCell] using this) (Nat.le_refl _)
              iterate 7 refine Rk.set ?_ (.inl (by show b4 < w6x.heap.size; have := H78.out; have := HN47.out; omega)) _
              exact R6j.out
          · iterate 7 refine RdStep.far ?_ HN4.out HGE.out HGE0.out _
            exact HI10.out
    | true =>
      have hk7 := K7f.out
      have p0 := (blk_cell hk7 0).trans rfl
      have p1 := (blk_cell hk7 1).trans rfl
      have p2 := (blk_cell hk7 2).trans rfl
      have p3 := (blk_cell hk7 3).trans rfl
      have p4 := (blk_cell hk7 4).trans rfl
      have p5 := (blk_cell hk7 5).trans rfl
      have p6 := (blk_cell hk7 6).trans rfl
      clear hk7
      go_wp2_with fail
      go_region_held3 (fun w' => w'.cell? ⟨b7, 0, none⟩ = some (.int .i64 kq.f0) ∧ w'.cell? ⟨b7, 1, none⟩ = some (.int .i64 kq.f1.f0) ∧ w'.cell? ⟨b7, 2, none⟩ = some (.int .i64 kq.f1.f1) ∧ w'.cell? ⟨b7, 3, none⟩ = some (.bool kq.f1.f2.f0) ∧ w'.cell? ⟨b7, 4, none⟩ = some (.int .i64 kq.f1.f2.f1) ∧ w'.cell? ⟨b7, 5, none⟩ = some (.string kq.f1.f2.f2) ∧ w'.cell? ⟨b7, 6, none⟩ = some (.slice A5 kq.f2.length c5))
        ((repeat' apply And.intro) <;> (first | assumption | exact RdStep.cell hS (by assumption) HN7.out | exact cell_far_alloc (by first | assumption | (simp only [*]; done)) (by omega) | go_keep))
        (first | (go_at_call 31; rw [HWR.out]; refine (HQ2.out _ (IsRd.below HI6.out.1 (below_drew (Below.refl _ _))) (below_drew HI6.out.2.1)).mono ?_; rintro e w7 ⟨A6, c6, rfl, l6', R6, hS⟩; (have K8g := hS.blk (show (w6.drew).heap[b7 + 1]? = _ from K8f.out) HN8.out); (have K7g := hS.blk (show (w6.drew).heap[b7]? = _ from K7f.out) HN7.out); (have r0 := (blk_cell K7g 0).trans rfl); (have r1 := (blk_cell K7g 1).trans rfl); (have r2 := (blk_cell K7g 2).trans rfl); (have r3 := (blk_cell K7g 3).trans rfl); (have r4 := (blk_cell K7g 4).trans rfl); (have r5 := (blk_cell K7g 5).trans rfl); (have r6 := (blk_cell K7g 6).trans rfl); clear K7g; (have y6 := (blk_cell K8g 6).trans rfl); (have u6 := blk_frozen K8g 6); (have hb78 := blk_lt K8g); (have hb77 : b7 < w7.heap.size := Nat.lt_of_succ_lt hb78); clear K8g))
      all_goals
        have HI7 := (HI6.out.below (below_drew (Below.refl _ _))).then hS
        have K4g := hS.blk (show (w6.drew).heap[b4]? = _ from K4f.out) HN4.out
        have K8g := hS.blk (show (w6.drew).heap[b7 + 1]? = _ from K8f.out) HN8.out
        have R5g := Rk.but (Rk.below R5f.out (below_drew (Below.refl _ _))) hS.2.2
        have h67 : w6.heap.size ≤ w7.heap.size := hS.globs_le
        have h46 := blk_lt K4f.out
        have h76 := blk_lt K7f.out
        have hb78' := blk_lt K8f.out
        clear hS y6 u6 hb77 r0 r1 r2 r3 r4 r5 r6 p0 p1 p2 p3 p4 p5 p6
        go_wp2_with fail
        have K9 := blk_new_at (w7.setCell ⟨b7 + 1, 6, none⟩ (Value.slice (some ⟨w7.heap.size, 0, none⟩) 2 2)) (Obj.cells #[.int .i64 kq.f0, .int .i64 kq.f1.f0, .int .i64 kq.f1.f1, .bool kq.f1.f2.f0, .int .i64 kq.f1.f2.f1, .string kq.f1.f2.f2, .slice A5 kq.f2.length c5, .int .i64 kq2.f0, .int .i64 kq2.f1.f0, .int .i64 kq2.f1.f1, .bool kq2.f1.f2.f0, .int .i64 kq2.f1.f2.f1, .string kq2.f1.f2.f2, .slice A6 kq2.f2.length c6] 28) w7.heap.size (by simp [World.setCell])
        have BA := below_alloc (Below.refl _ (w7.setCell ⟨b7 + 1, 6, none⟩ (Value.slice (some ⟨w7.heap.size, 0, none⟩) 2 2))) (Obj.cells #[.int .i64 kq.f0, .int .i64 kq.f1.f0, .int .i64 kq.f1.f1, .bool kq.f1.f2.f0, .int .i64 kq.f1.f2.f1, .string kq.f1.f2.f2, .slice A5 kq.f2.length c5, .int .i64 kq2.f0, .int .i64 kq2.f1.f0, .int .i64 kq2.f1.f1, .bool kq2.f1.f2.f0, .int .i64 kq2.f1.f2.f1, .string kq2.f1.f2.f2, .slice A6 kq2.f2.length c6] 28)
        have K8s : (w7.setCell ⟨b7 + 1, 6, none⟩ (Value.slice (some ⟨w7.heap.size, 0, none⟩) 2 2)).heap[b7 + 1]? = some (.cells #[.int .i64 2, .int .i64 0, .int .i64 0, .bool false, .int .i64 0, .string ⟨#[]⟩, (Value.slice (some ⟨w7.heap.size, 0, none⟩) 2 2)] 28 (0, 0)) := blk_set K8g 6 _
        have K8h := (BA.block _ (blk_lt K8s)).trans K8s
        have n48 : b4 ≠ b7 + 1 := by have := HN47.out; omega
        have K4s := blk_far (p := ⟨b7 + 1, 6, none⟩) K4g n48 (Value.slice (some ⟨w7.heap.size, 0, none⟩) 2 2)
        have K4h := (BA.block _ (blk_lt K4s)).trans K4s
        have HGE8b := Nat.le_trans HI00.out HGE8.out
        have HI8 := (HI7.far (p := ⟨b7 + 1, 6, none⟩) HN8.out HGE8.out HGE8b (Value.slice (some ⟨w7.heap.size, 0, none⟩) 2 2)).below BA
        have R5h := (R5g.set (p := ⟨b7 + 1, 6, none⟩) (.inr (by have := HB7.out; show w4.heap.size ≤ b7 + 1; omega)) (Value.slice (some ⟨w7.heap.size, 0, none⟩) 2 2)).below BA
        have R6h := (R6.set (p := ⟨b7 + 1, 6, none⟩) (.inl (by show b7 + 1 < w6.heap.size; omega)) (Value.slice (some ⟨w7.heap.size, 0, none⟩) 2 2)).below BA
        have R5h := Aside0.mk R5h
        have R6h := Aside0.mk R6h
        have L6 := Aside0.mk l6'
        have K9 := Aside0.mk K9
        have K8h := Aside0.mk K8h
        have K4h := Aside0.mk K4h
        have HI8 := Aside0.mk HI8
        have hn9 : w7.heap.size ≠ g := by have := HI7.1.lt; omega
        have HN9 := Aside0.mk hn9
        have H49 : Aside0 (b4 < w7.heap.size) := ⟨by omega⟩
        have H67 := Aside0.mk h67
        have H78 : Aside0 (b7 + 1 < w6.heap.size) := ⟨hb78'⟩
        have HW67 : Aside0 (w2.heap.size ≤ w7.heap.size) := ⟨by have := H27.out; omega⟩
        generalize (w7.setCell _ _).alloc _ = W8 at K9 K8h K4h HI8 R5h R6h ⊢
        clear BA K8s K4s K4g K8g R5g R6 l6' HI7 hn9 h67 h46 h76 hb78 hb78' n48
        refine (HNEXT5.out W8 HI8.out.1 HI8.out.2.1).mono ?_
        rintro e w9 ⟨rfl, hS⟩
        have HI9 := Aside0.mk (HI8.out.then hS)
        have K4i := Aside0.mk (hS.blk K4h.out HN4.out)
        have K8i := Aside0.mk (hS.blk K8h.out HN8.out)
        have K9i := Aside0.mk (hS.blk K9.out HN9.out)
        have R5i := Aside0.mk (R5h.out.but hS.2.2)
        have R6i := Aside0.mk (R6h.out.but hS.2.2)
        clear hS K4h K8h K9 R5h R6h HI8
        go_wp2_with fail
        refine (must.calls w0 w9 g l6 _ _ HI9.out.1 HI9.out.2.1).mono ?_
        rintro e w10 ⟨rfl, hS⟩
        have HI10 := Aside0.mk (HI9.out.then hS)
        have K4j := Aside0.mk (hS.blk K4i.out HN4.out)
        have K8j := Aside0.mk (hS.blk K8i.out HN8.out)
        have K9j := Aside0.mk (hS.blk K9i.out HN9.out)
        have R5j := Aside0.mk (R5i.out.but hS.2.2)
        have R6j := Aside0.mk (R6i.out.but hS.2.2)
        clear hS K4i K8i K9i R5i R6i HI9
        have hk4 := K4j.out
        have q0 := (blk_cell hk4 0).trans rfl
        have q1 := (blk_cell hk4 1).trans rfl
        have q2 := (blk_cell hk4 2).trans rfl
        have q3 := (blk_cell hk4 3).trans rfl
        have q4 := (blk_cell hk4 4).trans rfl
        have q5 := (blk_cell hk4 5).trans rfl
        have q6 := (blk_cell hk4 6).trans rfl
        have z0 := blk_frozen hk4 0
        have z1 := blk_frozen hk4 1
        have z2 := blk_frozen hk4 2
        have z3 := blk_frozen hk4 3
        have z4 := blk_frozen hk4 4
        have z5 := blk_frozen hk4 5
        have z6 := blk_frozen hk4 6
        have hk8 := K8j.out
        have p0 := (blk_cell hk8 0).trans rfl
        have p1 := (blk_cell hk8 1).trans rfl
        have p2 := (blk_cell hk8 2).trans rfl
        have p3 := (blk_cell hk8 3).trans rfl
        have p4 := (blk_cell hk8 4).trans rfl
        have p5 := (blk_cell hk8 5).trans rfl
        have p6 := (blk_cell hk8 6).trans rfl
        clear hk4 hk8
        have hlt4 := blk_lt K4j.out
        go_wp2_with fail
        refine bodyPost_ret (v := .agg #[.int .i64 2, .int .i64 0, .int .i64 0, .bool false, .int .i64 0, .string ⟨#[]⟩, .slice (some ⟨w7.heap.size, 0, none⟩) 2 2]) (by simp [results, Tryd.results31, go_sem, q0, q1, q2, q3, q4, q5, q6]) rfl ?_
        have hr : res = (⟨2, z25, [kq, kq2]⟩, l6, b6' || !cl) := by rw [HRES.out]; rfl
        rw [hr]
        have hsz := blk_lt K9j.out
        have e27 := H27.out
        have e43 := H43.out
        refine ⟨some ⟨w7.heap.size, 0, none⟩, 2, rfl, by simp, ?_, ?_⟩
        · refine Rk.two (t := 28) (A := A5) (B := A6) (c := c5) (d := c6) ?_ HN9.out (by have := HGE.out; have := H49.out; omega) (by simp [World.setCell]; exact hsz) (Nat.le_refl _) L5.out ?_ L6.out ?_
          · iterate 7 refine blk_far ?_ (Nat.ne_of_gt H49.out) _
            exact K9j.out
          · refine Rk.widen (lo := w2.heap.size) (hi := w4.heap.size) ?_ (by have := HGE.out; omega) (by have := R5j.out.1; simpa [World.setCell] using this) (Nat.le_refl _)
            iterate 7 refine Rk.set ?_ (.inl e43) _
            exact R5j.out
          · refine Rk.widen (lo := w6.heap.size) (hi := w7.heap.size) ?_ (by have := HGE.out; have := H78.out; have := HN47.out; omega) (by have := R6j.out.1; simpa [World.setCell] using this) (Nat.le_refl _)
            iterate 7 refine Rk.set ?_ (.inl (by show b4 < w6.heap.size; have := H78.out; have := HN47.out; omega)) _
            exact R6j.out
        · iterate 7 refine RdStep.far ?_ HN4.out HGE.out HGE0.out _
          exact HI10.out
end Go.Proofs.YtglcajijmkianaaDoor.A
