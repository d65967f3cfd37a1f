/- A node goes in, level by level; a node's deed is another: plain facts on the list and its memory. · One level more of a node that goes in: both ways at once; where the search's places point. Plain. · slices.Clone over rows, on every row that takes no more memory than a slice may. · skip.List.Put: a deed goes in. (under way) -/
import Derived.Test.YtojcbknclfamhaaGreatDoorKpAx0
import Derived.Test.YtojcbknclfamhaaGreatDoorKpHSkA
import Derived.Lib.SliceRun
namespace Go.Proofs.YtojcbknclfamhaaGreatDoor.A
open Go.RowKit Go.Proofs.YtojcbknclfamhaaGreatDoorW.PrintWords Go.Proofs.YtojcbknclfamhaaGreatDoorW.PrintLast Go.Proofs.YtojcbknclfamhaaGreatDoorW.PrintMore
set_option linter.unusedVariables false
set_option linter.unusedSimpArgs false
theorem nextAt_cons (i : Nat) (n : Nd) (l : List Nd) : nextAt i (n :: l) = if i < n.h then some ⟨n.b, 0, none⟩ else nextAt i l := by
  unfold nextAt
  by_cases h : i < n.h
  · rw [if_pos h, List.find?_cons_of_pos (by simpa using h)]; rfl
  · rw [if_neg h, List.find?_cons_of_neg (by simpa using h)]
theorem Chain.far {W : World} {base nb i : Nat} {v : Value} {cs : Array Value} {T : TypeId} (hb : W.heap[nb]? = some (.cells cs T (0, 0))) (hT : ∀ q, q ∈ 46 :: k46.E → q ≠ T) : ∀ {l : List Nd}, (∀ n ∈ l, n.b ≠ nb) → Chain W base l → Chain (W.setCell ⟨nb, i, none⟩ v) base l
  | [], _, _ => trivial
  | n :: rest, hn, ⟨⟨V, h1, h2⟩, h3, h4, h5, h6, h7⟩ =>
    ⟨⟨V, blk_far (p := ⟨nb, i, none⟩) h1 (hn n (List.mem_cons_self ..)) v, Kd.R_set h2 hb hT i v⟩, h3, h4, h5, h6, Chain.far hb hT (fun m hm => hn m (List.mem_cons_of_mem _ hm)) h7⟩
theorem nextAt_hide (i : Nat) (n : Nd) (hn : n.h ≤ i) : ∀ (pre post : List Nd), nextAt i (pre ++ n :: post) = nextAt i (pre ++ post)
  | [], post => by rw [List.nil_append, List.nil_append, nextAt_cons, if_neg (by omega)]
  | m :: pre, post => by rw [List.cons_append, List.cons_append, nextAt_cons, nextAt_cons, nextAt_hide i n hn pre post]
theorem nextAt_stop (i : Nat) : ∀ (pre post post' : List Nd), (∃ m ∈ pre, i < m.h) → nextAt i (pre ++ post) = nextAt i (pre ++ post')
  | [], _, _, ⟨m, hm, _⟩ => by cases hm
  | a :: pre, post, post', ⟨m, hm, hi⟩ => by
    rw [List.cons_append, List.cons_append, nextAt_cons, nextAt_cons]
    by_cases h : i < a.h
    · rw [if_pos h, if_pos h]
    · rw [if_neg h, if_neg h]
      refine nextAt_stop i pre post post' ⟨m, ?_, hi⟩
      rcases List.mem_cons.1 hm with rfl | hm
      · exact absurd hi h
      · exact hm
theorem nextAt_skip (i : Nat) : ∀ (pre post : List Nd), (∀ m ∈ pre, m.h ≤ i) → nextAt i (pre ++ post) = nextAt i post
  | [], _, _ => rfl
  | a :: pre, post, h => by
    rw [List.cons_append, nextAt_cons, if_neg (by have := h a (List.mem_cons_self ..); omega)]
    exact nextAt_skip i pre post (fun m hm => h m (List.mem_cons_of_mem _ hm))
theorem cells_same (m : Nd) (V : Value) (r r' : List Nd) (h : ∀ q, q < 8 → q < m.h → nextAt q r = nextAt q r') : nodeCells m V r = nodeCells m V r' := by
  unfold nodeCells ptrs
  congr 2
  apply List.map_congr_left
  intro q hq
  rw [List.mem_range] at hq
  by_cases h1 : q < m.h
  · rw [if_pos h1, if_pos h1, h q hq h1]
  · rw [if_neg h1, if_neg h1]
theorem see_same (b : Nat) (d : S26) (i q : Nat) (s post : List Nd) (h : q ≠ i ∨ ∃ m ∈ s, i < m.h) : nextAt q (s ++ ⟨b, d, i⟩ :: post) = nextAt q (s ++ ⟨b, d, i + 1⟩ :: post) := by
  by_cases hq : q = i
  · subst hq
    exact nextAt_stop q s _ _ (h.resolve_left (fun e => e rfl))
  · have e : ∀ s : List Nd, nextAt q (s ++ ⟨b, d, i⟩ :: post) = nextAt q (s ++ ⟨b, d, i + 1⟩ :: post) := by
      intro s
      induction s with
      | nil =>
        rw [List.nil_append, List.nil_append, nextAt_cons, nextAt_cons]
        by_cases h1 : q < i
        · rw [if_pos h1, if_pos (by show q < i + 1; omega)]
        · rw [if_neg h1, if_neg (by show ¬ q < i + 1; omega)]
      | cons a s ih => rw [List.cons_append, List.cons_append, nextAt_cons, nextAt_cons, ih]
    exact e s
theorem ptrs_set (h i : Nat) (r r' : List Nd) (a : Option Addr) (hi : i < 8) (hh : i < h) (ha : nextAt i r' = a) (hs : ∀ q, q < 8 → q < h → q ≠ i → nextAt q r = nextAt q r') : (ptrs h r).set i (.pointer a) = ptrs h r' := by
  apply List.ext_getElem?
  intro q
  rw [List.getElem?_set]
  by_cases hq : i = q
  · subst hq
    rw [if_pos rfl, if_pos (by rw [ptrs_length]; exact hi), ptrs_at h r' i hi, if_pos hh, ha]
  · rw [if_neg hq]
    by_cases h8 : q < 8
    · rw [ptrs_at h r q h8, ptrs_at h r' q h8]
      by_cases h1 : q < h
      · rw [if_pos h1, if_pos h1, hs q h8 h1 (Ne.symm hq)]
      · rw [if_neg h1, if_neg h1]
    · rw [List.getElem?_eq_none (by rw [ptrs_length]; omega), List.getElem?_eq_none (by rw [ptrs_length]; omega)]
theorem node_set (m : Nd) (V : Value) (i : Nat) (r r' : List Nd) (a : Option Addr) (hi : i < 8) (hh : i < m.h) (ha : nextAt i r' = a) (hs : ∀ q, q < 8 → q < m.h → q ≠ i → nextAt q r = nextAt q r') : (nodeCells m V r).setIfInBounds (2 + i) (.pointer a) = nodeCells m V r' := by
  apply Array.ext'
  unfold nodeCells
  rw [Array.toList_setIfInBounds]
  show (Value.bool m.d.f0 :: V :: ptrs m.h r).set (2 + i) _ = Value.bool m.d.f0 :: V :: ptrs m.h r'
  rw [show 2 + i = i + 1 + 1 by omega, List.set_cons_succ, List.set_cons_succ, ptrs_set m.h i r r' a hi hh ha hs]
theorem head_set (l l' : List Nd) (seed cnt bytes : Int) (i : Nat) (a : Option Addr) (hi : i < 8) (ha : nextAt i l' = a) (hs : ∀ q, q < 8 → q ≠ i → nextAt q l = nextAt q l') : (headCells l seed cnt bytes).setIfInBounds (2 + i) (.pointer a) = headCells l' seed cnt bytes := by
  apply Array.ext'
  unfold headCells
  rw [Array.toList_setIfInBounds]
  show (Value.bool false :: Value.slice none 0 0 :: (ptrs 8 l ++ _)).set (2 + i) _ = Value.bool false :: Value.slice none 0 0 :: (ptrs 8 l' ++ _)
  rw [show 2 + i = i + 1 + 1 by omega, List.set_cons_succ, List.set_cons_succ, List.set_append, if_pos (by rw [ptrs_length]; exact hi), ptrs_set 8 i l l' a hi hi ha (fun q h1 _ h3 => hs q h1 h3)]
def ChainOn (W : World) (base : Nat) (tail : List Nd) : List Nd → Prop
  | [] => True
  | n :: rest => (∃ V, W.heap[n.b]? = some (.cells (nodeCells n V (rest ++ tail)) 105 (0, 0)) ∧ Kd.R k46 46 W base (fun _ => True) V n.d.f1) ∧ base ≤ n.b ∧ 0 ≤ n.h ∧ n.h ≤ 8 ∧ 0 < n.d.f1.length ∧ ChainOn W base tail rest
theorem chain_append (W : World) (base : Nat) (tail : List Nd) : ∀ pre : List Nd, Chain W base (pre ++ tail) ↔ ChainOn W base tail pre ∧ Chain W base tail
  | [] => ⟨fun h => ⟨trivial, h⟩, fun h => h.2⟩
  | n :: pre => by
    have ih := chain_append W base tail pre
    constructor
    · rintro ⟨h1, h2, h3, h4, h5, h6⟩
      exact ⟨⟨h1, h2, h3, h4, h5, (ih.1 h6).1⟩, (ih.1 h6).2⟩
    · rintro ⟨⟨h1, h2, h3, h4, h5, h6⟩, h7⟩
      exact ⟨h1, h2, h3, h4, h5, ih.2 ⟨h6, h7⟩⟩
theorem ChainOn.far {W : World} {base nb i : Nat} {v : Value} {cs : Array Value} {T : TypeId} {tail : List Nd} (hb : W.heap[nb]? = some (.cells cs T (0, 0))) (hT : ∀ q, q ∈ 46 :: k46.E → q ≠ T) : ∀ {l : List Nd}, (∀ n ∈ l, n.b ≠ nb) → ChainOn W base tail l → ChainOn (W.setCell ⟨nb, i, none⟩ v) base tail l
  | [], _, _ => trivial
  | n :: rest, hn, ⟨⟨V, h1, h2⟩, h3, h4, h5, h6, h7⟩ =>
    ⟨⟨V, blk_far (p := ⟨nb, i, none⟩) h1 (hn n (List.mem_cons_self ..)) v, Kd.R_set h2 hb hT i v⟩, h3, h4, h5, h6, ChainOn.far hb hT (fun m hm => hn m (List.mem_cons_of_mem _ hm)) h7⟩
theorem ChainOn.see {W : World} {base : Nat} {T T' : List Nd} : ∀ {l : List Nd}, (∀ (s : List Nd) (m : Nd) (p : List Nd), l = p ++ m :: s → ∀ q, q < 8 → q < m.h → nextAt q (s ++ T) = nextAt q (s ++ T')) → ChainOn W base T l → ChainOn W base T' l
  | [], _, _ => trivial
  | n :: rest, hs, ⟨⟨V, h1, h2⟩, h3, h4, h5, h6, h7⟩ => by
    refine ⟨⟨V, ?_, h2⟩, h3, h4, h5, h6, ChainOn.see (fun s m p e => hs s m (n :: p) (by rw [e]; rfl)) h7⟩
    rw [← cells_same n V (rest ++ T) (rest ++ T') (fun q hq hh => hs rest n [] rfl q hq hh)]
    exact h1
theorem on_low {W : World} {base : Nat} {b i : Nat} {d : S26} {post pre : List Nd} (hl : ∀ m ∈ pre, m.h ≤ i) (h : ChainOn W base (⟨b, d, i⟩ :: post) pre) : ChainOn W base (⟨b, d, i + 1⟩ :: post) pre :=
  h.see (fun s m p e q hq hh => see_same b d i q s post (.inl (by have := hl m (by rw [e]; simp); omega)))
theorem on_hi {W : World} {base : Nat} {b i : Nat} {d : S26} {post pre pre2 : List Nd} {a : Nd} (ha : i < a.h) (h : ChainOn W base (a :: pre2 ++ ⟨b, d, i⟩ :: post) pre) : ChainOn W base (a :: pre2 ++ ⟨b, d, i + 1⟩ :: post) pre :=
  h.see (fun s m p e q hq hh => by
    rw [← List.append_assoc, ← List.append_assoc]
    exact see_same b d i q (s ++ (a :: pre2)) post (.inr ⟨a, by simp, ha⟩))
theorem new_set (b i : Nat) (d : S26) (V : Value) (post : List Nd) (hi : i < 8) : (nodeCells ⟨b, d, i⟩ V post).setIfInBounds (2 + i) (.pointer (nextAt i post)) = nodeCells ⟨b, d, i + 1⟩ V post := by
  apply Array.ext'
  unfold nodeCells
  rw [Array.toList_setIfInBounds]
  show (Value.bool d.f0 :: V :: ptrs i post).set (2 + i) _ = Value.bool d.f0 :: V :: ptrs (i + 1) post
  rw [show 2 + i = i + 1 + 1 by omega, List.set_cons_succ, List.set_cons_succ]
  congr 2
  apply List.ext_getElem?
  intro q
  rw [List.getElem?_set]
  by_cases hq : i = q
  · subst hq
    rw [if_pos rfl, if_pos (by rw [ptrs_length]; exact hi), ptrs_at _ post i hi, if_pos (by omega)]
  · rw [if_neg hq]
    by_cases h8 : q < 8
    · rw [ptrs_at i post q h8, ptrs_at (i + 1) post q h8]
      by_cases h1 : q < i
      · rw [if_pos h1, if_pos (by omega)]
      · rw [if_neg h1, if_neg (by omega)]
    · rw [List.getElem?_eq_none (by rw [ptrs_length]; omega), List.getElem?_eq_none (by rw [ptrs_length]; omega)]
theorem chain_ne {W : World} {base x : Nat} {cs : Array Value} {T : TypeId} {fr : Nat × Nat} (hb : W.heap[x]? = some (.cells cs T fr)) (hT : T ≠ 105) : ∀ {l : List Nd}, Chain W base l → ∀ n ∈ l, n.b ≠ x
  | m :: rest, ⟨⟨V, h1, _⟩, _, _, _, _, h7⟩, n, hn => by
    rcases List.mem_cons.1 hn with rfl | hn
    · intro e
      rw [e, hb] at h1
      injection h1 with h1
      injection h1 with _ h2 _
      exact hT h2
    · exact chain_ne hb hT h7 n hn
  | [], _, _, hn => by cases hn
theorem on_ne {W : World} {base x : Nat} {tail : List Nd} {cs : Array Value} {T : TypeId} {fr : Nat × Nat} (hb : W.heap[x]? = some (.cells cs T fr)) (hT : T ≠ 105) : ∀ {l : List Nd}, ChainOn W base tail l → ∀ n ∈ l, n.b ≠ x
  | m :: rest, ⟨⟨V, h1, _⟩, _, _, _, _, h7⟩, n, hn => by
    rcases List.mem_cons.1 hn with rfl | hn
    · intro e
      rw [e, hb] at h1
      injection h1 with h1
      injection h1 with _ h2 _
      exact hT h2
    · exact on_ne hb hT h7 n hn
  | [], _, _, hn => by cases hn
structure SkM (w0 W : World) (lb : Nat) (l : List Nd) (seed cnt bytes : Int) : Prop where
  blk : W.heap[lb]? = some (.cells (headCells l seed cnt bytes) 107 (0, 0))
  old : w0.heap.size ≤ lb
  chain : Chain W w0.heap.size l
  nodup : (l.map (fun n => n.b)).Nodup
theorem typeV (q : Nat) (h : q ∈ 46 :: k46.E) : q ≠ 105 ∧ q ≠ 107 := by
  have e : k46.E = [] := rfl
  rw [e, List.mem_singleton] at h
  subst h
  decide
theorem mid_ne {pre post : List Nd} {n : Nd} (h : ((pre ++ n :: post).map (fun n => n.b)).Nodup) : (∀ m ∈ pre, m.b ≠ n.b) ∧ (∀ m ∈ post, m.b ≠ n.b) := by
  rw [List.map_append, List.map_cons, List.nodup_append] at h
  obtain ⟨_, h2, h3⟩ := h
  rw [List.nodup_cons] at h2
  refine ⟨fun m hm e => h3 m.b (List.mem_map_of_mem hm) n.b (List.mem_cons_self ..) e, fun m hm e => h2.1 (by rw [← e]; exact List.mem_map_of_mem hm)⟩
theorem SkM.raise_head {w0 W : World} {lb b i : Nat} {d : S26} {pre post : List Nd} {seed cnt bytes : Int} (h : SkM w0 W lb (pre ++ ⟨b, d, i⟩ :: post) seed cnt bytes) (hi : i < 8) (hl : ∀ m ∈ pre, m.h ≤ i) :
    SkM w0 ((W.setCell ⟨b, 2 + i, none⟩ (.pointer (nextAt i post))).setCell ⟨lb, 2 + i, none⟩ (.pointer (some ⟨b, 0, none⟩))) lb (pre ++ ⟨b, d, i + 1⟩ :: post) seed cnt bytes := by
  obtain ⟨hon, ⟨V, hV, hR⟩, h3, h4, h5, h6, hpost⟩ := (chain_append W _ _ pre).1 h.chain
  obtain ⟨hn1, hn2⟩ := mid_ne h.nodup
  have hlb : b ≠ lb := fun e => by have := hV; rw [show (⟨b, d, i⟩ : Nd).b = b from rfl, e, h.blk] at this; simp at this
  have hV1 := blk_set hV (2 + i) (.pointer (nextAt i post))
  rw [new_set b i d V post hi] at hV1
  have hL1 := blk_far (p := ⟨b, 2 + i, none⟩) h.blk (Ne.symm hlb) (.pointer (nextAt i post))
  have hon1 := ChainOn.far (i := 2 + i) (v := .pointer (nextAt i post)) hV (fun q hq => (typeV q hq).1) hn1 hon
  have hpost1 := Chain.far (i := 2 + i) (v := .pointer (nextAt i post)) hV (fun q hq => (typeV q hq).1) hn2 hpost
  have hR1 := Kd.R_set hR hV (fun q hq => (typeV q hq).1) (2 + i) (.pointer (nextAt i post))
  have hL2 := blk_set hL1 (2 + i) (.pointer (some ⟨b, 0, none⟩))
  rw [head_set (pre ++ ⟨b, d, i⟩ :: post) (pre ++ ⟨b, d, i + 1⟩ :: post) seed cnt bytes i (some ⟨b, 0, none⟩) hi (by rw [nextAt_skip i pre _ hl, nextAt_cons, if_pos (by show i < i + 1; omega)]) (fun q _ hq => see_same b d i q pre post (.inl hq))] at hL2
  refine ⟨hL2, h.old, (chain_append _ _ _ pre).2 ⟨?_, ⟨V, blk_far (p := ⟨lb, 2 + i, none⟩) hV1 hlb (.pointer (some ⟨b, 0, none⟩)), Kd.R_set hR1 hL1 (fun q hq => (typeV q hq).2) (2 + i) (.pointer (some ⟨b, 0, none⟩))⟩, h3, Nat.zero_le _, by show i + 1 ≤ 8; omega, h6, ?_⟩, by simpa using h.nodup⟩
  · exact on_low hl (ChainOn.far (i := 2 + i) (v := .pointer (some ⟨b, 0, none⟩)) hL1 (fun q hq => (typeV q hq).2) (on_ne hL1 (by decide) hon1) hon1)
  · exact Chain.far (i := 2 + i) (v := .pointer (some ⟨b, 0, none⟩)) hL1 (fun q hq => (typeV q hq).2) (chain_ne hL1 (by decide) hpost1) hpost1
theorem on_split (W : World) (base : Nat) (tail : List Nd) (a : Nd) (p2 : List Nd) : ∀ p1 : List Nd, ChainOn W base tail (p1 ++ a :: p2) ↔ ChainOn W base (a :: p2 ++ tail) p1 ∧ ChainOn W base tail (a :: p2)
  | [] => ⟨fun h => ⟨trivial, h⟩, fun h => h.2⟩
  | n :: p1 => by
    have ih := on_split W base tail a p2 p1
    have e : (p1 ++ a :: p2) ++ tail = p1 ++ (a :: p2 ++ tail) := by simp
    constructor
    · rintro ⟨⟨V, h1, h2⟩, h3, h4, h5, h6, h7⟩
      rw [show p1.append (a :: p2) ++ tail = _ from e] at h1
      exact ⟨⟨⟨V, h1, h2⟩, h3, h4, h5, h6, (ih.1 h7).1⟩, (ih.1 h7).2⟩
    · rintro ⟨⟨⟨V, h1, h2⟩, h3, h4, h5, h6, h7⟩, h8⟩
      rw [← e] at h1
      exact ⟨⟨V, h1, h2⟩, h3, h4, h5, h6, ih.2 ⟨h7, h8⟩⟩
theorem heads_same (l l' : List Nd) (seed cnt bytes : Int) (h : ∀ q, q < 8 → nextAt q l = nextAt q l') : headCells l seed cnt bytes = headCells l' seed cnt bytes := by
  have e : ptrs 8 l = ptrs 8 l' := by
    unfold ptrs
    apply List.map_congr_left
    intro q hq
    rw [List.mem_range] at hq
    rw [if_pos hq, if_pos hq, h q hq]
  unfold headCells
  rw [e]
theorem SkM.raise_node {w0 W : World} {lb b i : Nat} {d : S26} {p1 p2 post : List Nd} {a : Nd} {seed cnt bytes : Int} (h : SkM w0 W lb (p1 ++ a :: p2 ++ ⟨b, d, i⟩ :: post) seed cnt bytes) (hi : i < 8) (ha : i < a.h) (hl : ∀ m ∈ p2, m.h ≤ i) :
    SkM w0 ((W.setCell ⟨b, 2 + i, none⟩ (.pointer (nextAt i post))).setCell ⟨a.b, 2 + i, none⟩ (.pointer (some ⟨b, 0, none⟩))) lb (p1 ++ a :: p2 ++ ⟨b, d, i + 1⟩ :: post) seed cnt bytes := by
  obtain ⟨hon, ⟨V, hV, hR⟩, h3, h4, h5, h6, hpost⟩ := (chain_append W _ _ (p1 ++ a :: p2)).1 h.chain
  obtain ⟨hn1, hn2⟩ := mid_ne h.nodup
  have hab : a.b ≠ b := hn1 a (by simp)
  have hnd2 : ((p1 ++ a :: (p2 ++ ⟨b, d, i⟩ :: post)).map (fun n => n.b)).Nodup := by have := h.nodup; rw [List.append_assoc, List.cons_append] at this; exact this
  obtain ⟨hm1, hm2⟩ := mid_ne hnd2
  have hlb : b ≠ lb := fun e => by have := hV; rw [show (⟨b, d, i⟩ : Nd).b = b from rfl, e, h.blk] at this; simp at this
  have hV1 := blk_set hV (2 + i) (.pointer (nextAt i post))
  rw [new_set b i d V post hi] at hV1
  have hL1 := blk_far (p := ⟨b, 2 + i, none⟩) h.blk (Ne.symm hlb) (.pointer (nextAt i post))
  rw [heads_same (p1 ++ a :: p2 ++ ⟨b, d, i⟩ :: post) (p1 ++ a :: p2 ++ ⟨b, d, i + 1⟩ :: post) seed cnt bytes (fun q _ => see_same b d i q (p1 ++ a :: p2) post (.inr ⟨a, by simp, ha⟩))] at hL1
  have hon1 := ChainOn.far (i := 2 + i) (v := .pointer (nextAt i post)) hV (fun q hq => (typeV q hq).1) hn1 hon
  have hpost1 := Chain.far (i := 2 + i) (v := .pointer (nextAt i post)) hV (fun q hq => (typeV q hq).1) hn2 hpost
  have hR1 := Kd.R_set hR hV (fun q hq => (typeV q hq).1) (2 + i) (.pointer (nextAt i post))
  obtain ⟨q1, ⟨Va, hA, hRa⟩, a3, a4, a5, a6, q2⟩ := (on_split _ _ _ a p2 p1).1 hon1
  have hlab : a.b ≠ lb := fun e => by have := hA; rw [e, hL1] at this; simp at this
  have hA2 := blk_set hA (2 + i) (.pointer (some ⟨b, 0, none⟩))
  rw [node_set a Va i (p2 ++ ⟨b, d, i⟩ :: post) (p2 ++ ⟨b, d, i + 1⟩ :: post) (some ⟨b, 0, none⟩) hi ha (by rw [nextAt_skip i p2 _ hl, nextAt_cons, if_pos (by show i < i + 1; omega)]) (fun q _ _ hq => see_same b d i q p2 post (.inl hq))] at hA2
  refine ⟨blk_far (p := ⟨a.b, 2 + i, none⟩) hL1 (Ne.symm hlab) (.pointer (some ⟨b, 0, none⟩)), h.old, (chain_append _ _ _ (p1 ++ a :: p2)).2 ⟨(on_split _ _ _ a p2 p1).2 ⟨?_, ⟨Va, hA2, Kd.R_set hRa hA (fun q hq => (typeV q hq).1) (2 + i) (.pointer (some ⟨b, 0, none⟩))⟩, a3, a4, a5, a6, ?_⟩, ⟨V, blk_far (p := ⟨a.b, 2 + i, none⟩) hV1 (Ne.symm hab) (.pointer (some ⟨b, 0, none⟩)), Kd.R_set hR1 hA (fun q hq => (typeV q hq).1) (2 + i) (.pointer (some ⟨b, 0, none⟩))⟩, h3, Nat.zero_le _, by show i + 1 ≤ 8; omega, h6, ?_⟩, by simpa using h.nodup⟩
  · exact on_hi ha (ChainOn.far (i := 2 + i) (v := .pointer (some ⟨b, 0, none⟩)) hA (fun q hq => (typeV q hq).1) hm1 q1)
  · exact on_low hl (ChainOn.far (i := 2 + i) (v := .pointer (some ⟨b, 0, none⟩)) hA (fun q hq => (typeV q hq).1) (fun m hm => hm2 m (by simp [hm])) q2)
  · exact Chain.far (i := 2 + i) (v := .pointer (some ⟨b, 0, none⟩)) hA (fun q hq => (typeV q hq).1) (fun m hm => hm2 m (by simp [hm])) hpost1
theorem new_cells (b : Nat) (d : S26) (V : Value) (post : List Nd) : nodeCells ⟨b, d, 0⟩ V post = #[.bool d.f0, V, .pointer none, .pointer none, .pointer none, .pointer none, .pointer none, .pointer none, .pointer none, .pointer none] := rfl
theorem SkM.start {w0 W : World} {lb b : Nat} {d : S26} {V : Value} {pre post : List Nd} {seed cnt bytes : Int} (h : SkM w0 W lb (pre ++ post) seed cnt bytes) (hb : W.heap[b]? = some (.cells #[.bool d.f0, V, .pointer none, .pointer none, .pointer none, .pointer none, .pointer none, .pointer none, .pointer none, .pointer none] 105 (0, 0))) (hge : w0.heap.size ≤ b) (hR : Kd.R k46 46 W w0.heap.size (fun _ => True) V d.f1) (hd : 0 < d.f1.length) (hne : ∀ m ∈ pre ++ post, m.b ≠ b) :
    SkM w0 W lb (pre ++ ⟨b, d, 0⟩ :: post) seed cnt bytes := by
  obtain ⟨hon, hpost⟩ := (chain_append W _ _ pre).1 h.chain
  have hide : ∀ q (s : List Nd), nextAt q (s ++ post) = nextAt q (s ++ ⟨b, d, 0⟩ :: post) := fun q s => (nextAt_hide q ⟨b, d, 0⟩ (Nat.zero_le q) s post).symm
  refine ⟨?_, h.old, (chain_append _ _ _ pre).2 ⟨hon.see (fun s m p e q _ _ => hide q s), ⟨V, ?_, hR⟩, hge, Nat.zero_le _, Nat.zero_le _, hd, hpost⟩, ?_⟩
  · rw [← heads_same (pre ++ post) (pre ++ ⟨b, d, 0⟩ :: post) seed cnt bytes (fun q _ => hide q pre)]
    exact h.blk
  · rw [new_cells]
    exact hb
  · have hn := h.nodup
    rw [List.map_append, List.nodup_append] at hn
    obtain ⟨n1, n2, n3⟩ := hn
    rw [List.map_append, List.map_cons, List.nodup_append]
    refine ⟨n1, List.nodup_cons.2 ⟨fun hx => ?_, n2⟩, fun x hx y hy => ?_⟩
    · obtain ⟨m, hm, e⟩ := List.mem_map.1 hx
      exact hne m (List.mem_append_right _ hm) e
    · rcases List.mem_cons.1 hy with rfl | hy
      · obtain ⟨m, hm, rfl⟩ := List.mem_map.1 hx
        exact hne m (List.mem_append_left _ hm)
      · exact n3 x hx y hy
theorem Sk.redo {w0 W : World} {lb b hh : Nat} {d d' : S26} {V' : Value} {pre post : List Nd} {seed cnt bytes : Int} (h : Sk w0 W lb (pre ++ ⟨b, d, hh⟩ :: post) seed cnt bytes) (hR' : Kd.R k46 46 W w0.heap.size (fun _ => True) V' d'.f1) (hd : 0 < d'.f1.length) :
    Sk w0 ((W.setCell ⟨b, 0, none⟩ (.bool d'.f0)).setCell ⟨b, 1, none⟩ V') lb (pre ++ ⟨b, d', hh⟩ :: post) seed cnt bytes := by
  obtain ⟨hon, ⟨V, hV, hR⟩, h3, h4, h5, h6, hpost⟩ := (chain_append W _ _ pre).1 h.chain
  obtain ⟨hn1, hn2⟩ := mid_ne h.nodup
  have hlb : b ≠ lb := fun e => by have := hV; rw [show (⟨b, d, hh⟩ : Nd).b = b from rfl, e, h.blk] at this; simp at this
  have hV1 := blk_set hV 0 (.bool d'.f0)
  have e1 : (nodeCells ⟨b, d, hh⟩ V post).setIfInBounds 0 (.bool d'.f0) = nodeCells ⟨b, ⟨d'.f0, d.f1⟩, hh⟩ V post := rfl
  rw [e1] at hV1
  have hV2 := blk_set hV1 1 V'
  have e2 : (nodeCells ⟨b, ⟨d'.f0, d.f1⟩, hh⟩ V post).setIfInBounds 1 V' = nodeCells ⟨b, d', hh⟩ V' post := rfl
  rw [e2] at hV2
  have see : ∀ q (s : List Nd), nextAt q (s ++ ⟨b, d, hh⟩ :: post) = nextAt q (s ++ ⟨b, d', hh⟩ :: post) := fun q s => by
    induction s with
    | nil => rw [List.nil_append, List.nil_append, nextAt_cons, nextAt_cons]
    | cons a s ih => rw [List.cons_append, List.cons_append, nextAt_cons, nextAt_cons, ih]
  have hon1 := ChainOn.far (i := 0) (v := .bool d'.f0) hV (fun q hq => (typeV q hq).1) hn1 hon
  have hon2 := ChainOn.far (i := 1) (v := V') hV1 (fun q hq => (typeV q hq).1) hn1 hon1
  have hp1 := Chain.far (i := 0) (v := .bool d'.f0) hV (fun q hq => (typeV q hq).1) hn2 hpost
  have hp2 := Chain.far (i := 1) (v := V') hV1 (fun q hq => (typeV q hq).1) hn2 hp1
  have hL1 := blk_far (p := ⟨b, 0, none⟩) h.blk (Ne.symm hlb) (.bool d'.f0)
  have hL2 := blk_far (p := ⟨b, 1, none⟩) hL1 (Ne.symm hlb) V'
  rw [heads_same (pre ++ ⟨b, d, hh⟩ :: post) (pre ++ ⟨b, d', hh⟩ :: post) seed cnt bytes (fun q _ => see q pre)] at hL2
  refine ⟨hL2, h.old, (chain_append _ _ _ pre).2 ⟨hon2.see (fun s m p e q _ _ => see q s), ⟨V', hV2, Kd.R_set (Kd.R_set hR' hV (fun q hq => (typeV q hq).1) 0 (.bool d'.f0)) hV1 (fun q hq => (typeV q hq).1) 1 V'⟩, h3, h4, h5, hd, hp2⟩, by simpa using h.nodup, fun j hj => ?_⟩
  have hp : ∀ m ∈ pre ++ ⟨b, d, hh⟩ :: post, 1 ≤ m.h := fun m hm => by
    obtain ⟨q, hq, rfl⟩ := List.getElem_of_mem hm
    exact h.pos q hq
  have hm := List.getElem_mem hj
  generalize (pre ++ ⟨b, d', hh⟩ :: post)[j] = x at hm ⊢
  rcases List.mem_append.1 hm with hm | hm
  · exact hp x (List.mem_append_left _ hm)
  · rcases List.mem_cons.1 hm with rfl | hm
    · exact hp ⟨b, d, hh⟩ (by simp)
    · exact hp x (List.mem_append_right _ (List.mem_cons_of_mem _ hm))
end Go.Proofs.YtojcbknclfamhaaGreatDoor.A
namespace Go.Proofs.YtojcbknclfamhaaGreatDoor.A
open Go.RowKit Go.Proofs.YtojcbknclfamhaaGreatDoorW.PrintWords Go.Proofs.YtojcbknclfamhaaGreatDoorW.PrintLast Go.Proofs.YtojcbknclfamhaaGreatDoorW.PrintMore
set_option linter.unusedVariables false
set_option linter.unusedSimpArgs false
theorem outP_low (l : List Nd) (i : Nat) : ∀ c, c ≤ l.length → ∀ q (hq : q < l.length), outP l i c ≤ q → q < c → l[q].h ≤ i
  | 0, _, q, _, _, h => absurd h (by omega)
  | c + 1, hc, q, hq, h1, h2 => by
    unfold outP at h1
    rw [getD_nd l c (by omega)] at h1
    by_cases hi : i < l[c].h
    · rw [if_pos hi] at h1
      omega
    · rw [if_neg hi] at h1
      by_cases e : q = c
      · subst e; omega
      · exact outP_low l i c (by omega) q hq h1 (by omega)
theorem head_at (L : List Nd) (seed cnt bytes : Int) (i : Nat) (hi : i < 8) : (headCells L seed cnt bytes)[2 + i]? = some (.pointer (nextAt i L)) := by
  unfold headCells
  rw [List.getElem?_toArray, List.getElem?_append_right (by simp), List.getElem?_append_left (by rw [ptrs_length]; simp; omega)]
  simp only [List.length_cons, List.length_nil]
  rw [show 2 + i - (0 + 1 + 1) = i by omega, ptrs_at 8 L i hi, if_pos hi]
theorem node_at (n : Nd) (V : Value) (L : List Nd) (i : Nat) (hi : i < 8) : (nodeCells n V L)[2 + i]? = some (.pointer (if i < n.h then nextAt i L else none)) := by
  unfold nodeCells
  rw [List.getElem?_toArray, List.getElem?_append_right (by simp)]
  simp only [List.length_cons, List.length_nil]
  rw [show 2 + i - (0 + 1 + 1) = i by omega, ptrs_at _ L i hi]
theorem chain_lt {W : World} {base : Nat} : ∀ {l : List Nd}, Chain W base l → ∀ n ∈ l, n.b < W.heap.size
  | m :: rest, ⟨⟨V, h1, _⟩, _, _, _, _, h7⟩, n, hn => by
    rcases List.mem_cons.1 hn with rfl | hn
    · exact (Array.getElem?_eq_some_iff.1 h1).1
    · exact chain_lt h7 n hn
  | [], _, _, hn => by cases hn
theorem SkM.raise {w0 W : World} {lb b i c : Nat} {d : S26} {l : List Nd} {seed cnt bytes : Int} (h : SkM w0 W lb (l.take c ++ ⟨b, d, i⟩ :: l.drop c) seed cnt bytes) (hi : i < 8) (hc : c ≤ l.length) (hge : w0.heap.size ≤ b) :
    W.cell? ⟨atB lb l (outP l i c), 2 + i, none⟩ = some (.pointer (nextAt i (l.drop c))) ∧ W.frozen? ⟨atB lb l (outP l i c), 2 + i, none⟩ = false ∧ W.frozen? ⟨b, 2 + i, none⟩ = false ∧ (∃ v, W.cell? ⟨b, 2 + i, none⟩ = some v) ∧ b ≠ atB lb l (outP l i c) ∧ w0.heap.size ≤ atB lb l (outP l i c) ∧ (∃ cs T, W.heap[atB lb l (outP l i c)]? = some (.cells cs T (0, 0)) ∧ (T = 105 ∨ T = 107)) ∧ (∃ cs, W.heap[b]? = some (.cells cs 105 (0, 0))) ∧ SkM w0 ((W.setCell ⟨b, 2 + i, none⟩ (.pointer (nextAt i (l.drop c)))).setCell ⟨atB lb l (outP l i c), 2 + i, none⟩ (.pointer (some ⟨b, 0, none⟩))) lb (l.take c ++ ⟨b, d, i + 1⟩ :: l.drop c) seed cnt bytes := by
  obtain ⟨_, ⟨Vn, hVn, -⟩, -⟩ := (chain_append W _ _ (l.take c)).1 h.chain
  have f2 := blk_frozen hVn (2 + i)
  have c2 := cells_at2 hVn (2 + i) _ (node_at _ Vn _ i hi)
  have hlb : b ≠ lb := fun e => by have := hVn; rw [show (⟨b, d, i⟩ : Nd).b = b from rfl, e, h.blk] at this; simp at this
  have hlow : ∀ q (hq : q < l.length), outP l i c ≤ q → q < c → l[q].h ≤ i := outP_low l i c hc
  by_cases hz : outP l i c = 0
  · have ea : atB lb l (outP l i c) = lb := by rw [hz]; rfl
    have hl : ∀ m ∈ l.take c, m.h ≤ i := fun m hm => by
      obtain ⟨q, hq, rfl⟩ := List.getElem_of_mem hm
      rw [List.length_take] at hq
      rw [List.getElem_take]
      exact hlow q (by omega) (by omega) (by omega)
    rw [ea]
    refine ⟨?_, blk_frozen h.blk _, f2, ⟨_, c2⟩, hlb, h.old, ⟨_, _, h.blk, .inr rfl⟩, ⟨_, hVn⟩, h.raise_head hi hl⟩
    rw [cells_at2 h.blk (2 + i) _ (head_at _ seed cnt bytes i hi), nextAt_skip i _ _ hl, nextAt_cons, if_neg (by show ¬ i < i; omega)]
  · have hp := outP_le l i c
    obtain ⟨h2, h3⟩ := (outP_h l i c hc).resolve_left hz
    generalize outP l i c = p at *
    have hpt : p - 1 < (l.take c).length := by rw [List.length_take]; omega
    have hsp : l.take c = (l.take c).take (p - 1) ++ (l.take c)[p - 1] :: (l.take c).drop (p - 1 + 1) := by
      rw [← List.drop_eq_getElem_cons hpt, List.take_append_drop]
    have hga : (l.take c)[p - 1] = l[p - 1] := List.getElem_take
    have ea : atB lb l p = l[p - 1].b := by
      unfold atB
      rw [if_neg hz]
      simp [List.getD, h2]
    have hl : ∀ m ∈ (l.take c).drop (p - 1 + 1), m.h ≤ i := fun m hm => by
      obtain ⟨q, hq, rfl⟩ := List.getElem_of_mem hm
      rw [List.length_drop, List.length_take] at hq
      rw [List.getElem_drop, List.getElem_take]
      exact hlow _ (by omega) (by omega) (by omega)
    rw [hga] at hsp
    rw [hsp] at h ⊢
    rw [ea]
    generalize l[p - 1] = a at *
    generalize (l.take c).take (p - 1) = p1 at *
    generalize (l.take c).drop (p - 1 + 1) = p2 at *
    have hch := h.chain
    rw [List.append_assoc, List.cons_append] at hch
    obtain ⟨_, ⟨Va, hVa, -⟩, hga2, -⟩ := (chain_append W _ _ p1).1 hch
    obtain ⟨hn1, -⟩ := mid_ne h.nodup
    refine ⟨?_, blk_frozen hVa _, f2, ⟨_, c2⟩, (fun e => hn1 a (by simp) e.symm), hga2, ⟨_, _, hVa, .inl rfl⟩, ⟨_, hVn⟩, h.raise_node hi h3 hl⟩
    rw [cells_at2 hVa (2 + i) _ (node_at a Va _ i hi), if_pos h3, nextAt_skip i p2 _ hl, nextAt_cons, if_neg (by show ¬ i < i; omega)]
theorem outA_at (lb : Nat) (l : List Nd) (c i : Nat) (hi : i < 8) : (outA lb l c 0)[i]? = some (.pointer (some ⟨atB lb l (outP l i c), 0, none⟩)) := by
  unfold outA
  rw [List.getElem?_toArray, List.getElem?_map, List.getElem?_range hi]
  rfl
end Go.Proofs.YtojcbknclfamhaaGreatDoor.A
namespace Go.Proofs.YtojcbknclfamhaaGreatDoor.A
open Go.RowKit Go.Proofs.YtojcbknclfamhaaGreatDoorW.PrintWords Go.Proofs.YtojcbknclfamhaaGreatDoorW.PrintLast Go.Proofs.YtojcbknclfamhaaGreatDoorW.PrintMore
set_option linter.unusedVariables false
set_option linter.unusedSimpArgs false
theorem info23 : (Tryz.prog.info? 46).map (fun i => (i.zero, i.size, i.bytes)) = some (some (.agg #[.bool false, .int .i64 0, .string ⟨#[]⟩]), 3, 32) := by kernel_rfl
def api_Value.f (l : List S46) : Option (List S46) := if l.length * 32 ≤ 140737488355328 then some l else none
theorem own_empty23 (w : World) (ok : Nat → Prop) (h : ok w.heap.size) : Kd.R k46 46 (w.alloc (.cells #[] 46)) w.heap.size ok (.slice (some ⟨w.heap.size, 0, none⟩) 0 0) [] := by
  refine ⟨fun k hk => ?_, [], ⟨rfl, .inr ⟨w.heap.size, 0, #[], rfl, Nat.le_refl _, heap_alloc_new w _, Nat.le_refl _, Nat.zero_le _, rfl, rfl⟩⟩, ?_⟩
  · have : w.heap.size = k := by simpa [Value.ownBlock] using hk
    subst this; exact h
  · exact ⟨rfl, fun j p hj => by simp at hj⟩
set_option maxRecDepth 100000 in
set_option maxHeartbeats 4000000 in
theorem api_Value.calls (A0 : Option Addr) (c0 : Nat) (l0 : List S46) (r : List S46) (w : World) (hr0 : Kd.C k46 w A0 l0.length l0) (hc0 : l0.length ≤ c0) (h : api_Value.f l0 = some r) :
    Calls Tryz.prog 59 #[.slice A0 l0.length c0] w fun e w' => ∃ v0_ : Value, e = .returned v0_ ∧ Kd.R k46 46 w' w.heap.size (fun _ => True) v0_ r ∧ Below w.heap.size w w' := by
  unfold api_Value.f at h
  split at h
  case isFalse => cases h
  rename_i hsz
  obtain rfl := Option.some.inj h
  clear h
  have hu43 := Tryz.underlying24
  have hnil := fun W n c => Lib.run_eql_slice_nil (P := Tryz.prog) W 24 46 A0 n c 0 0 hu43
  cases A0 with
  | none =>
    have hl : l0 = [] := by
      cases l0 with
      | nil => rfl
      | cons x xs => obtain ⟨ad, e, _⟩ := hr0.2.2 (by simp); cases e
    subst hl
    go_enter Tryz.func59, Tryz.ntmps59
    go_wp2_with fail
    go_ret
    exact ⟨_, rfl, Kd.R_nil _ _ _ _ _, Below.refl _ _⟩
  | some ad =>
    have HR := Aside0.mk hr0
    have HS : Aside0 ((([] : List S46).length + l0.length) * 32 ≤ 140737488355328) := ⟨by simpa using hsz⟩
    have HM : Aside0 (∀ (W : World) (b : Nat) (ok : Nat → Prop) (x : S46) (cs : List Value), k46.K W x cs → k46.M W b ok x cs) := ⟨fun W b ok x cs hx => by obtain rfl := k46_open hx; exact k46_mkM _ _ _ x⟩
    clear hr0 hsz
    go_enter Tryz.func59, Tryz.ntmps59
    go_wp2_with (at_builtin; refine Kd.R_append_rows k46 (Rr := k46.K (w.alloc (.cells #[] 46))) (w0 := w) w.heap.size rfl (.tmp 5) (.tmp 6) 24 46 (.agg #[.bool false, .int .i64 0, .string ⟨#[]⟩]) 32 rfl hu43 info23 rfl (by decide) (by decide) (.slice (some ⟨w.heap.size, 0, none⟩) 0 0) [] l0 (some ad) l0.length c0 (fun _ => True) (fun _ => False) rfl rfl (own_empty23 w _ trivial) (Kd.C_below HR.out (below_alloc (Below.refl _ _) _)) (HM.out _ _ _) (fun _ hk => hk.elim) (fun _ _ => trivial) (below_alloc (Below.refl _ _) _) (by simp) HS.out ?_; intro v1 w1 hR1 hB1 hg1 _)
    have HR1 := Aside0.mk hR1
    have HB1 := Aside0.mk hB1
    clear hR1 hB1 hg1
    go_wp2_with fail
    go_ret
    exact ⟨_, rfl, by simpa using HR1.out, HB1.out⟩
end Go.Proofs.YtojcbknclfamhaaGreatDoor.A
namespace Go.Proofs.YtojcbknclfamhaaGreatDoor.A
open Go.RowKit Go.Proofs.YtojcbknclfamhaaGreatDoorW.PrintWords Go.Proofs.YtojcbknclfamhaaGreatDoorW.PrintLast Go.Proofs.YtojcbknclfamhaaGreatDoorW.PrintMore
set_option linter.unusedVariables false
set_option linter.unusedSimpArgs false
def KeepT (w w' : World) : Prop := w.heap.size ≤ w'.heap.size ∧ ∀ (i : Nat) (cs : Array Value) (T : TypeId) (fr : Nat × Nat), w.heap[i]? = some (Obj.cells cs T fr) → T ≠ 105 → T ≠ 107 → w'.heap[i]? = some (Obj.cells cs T fr)
theorem KeepT.trans {w w1 w2 : World} (h : KeepT w w1) (h2 : KeepT w1 w2) : KeepT w w2 := ⟨Nat.le_trans h.1 h2.1, fun i cs T fr a b c => h2.2 i cs T fr (h.2 i cs T fr a b c) b c⟩
theorem KeepT.below {w w' : World} (h : Below w.heap.size w w') : KeepT w w' := ⟨h.size, fun i cs T fr a _ _ => (h.block i (Array.getElem?_eq_some_iff.1 a).1).trans a⟩
theorem KeepT.drew {w w' : World} (h : KeepT w w') : KeepT w w'.drew := h
theorem SkM.drew {w0 W : World} {lb : Nat} {l : List Nd} {seed cnt bytes : Int} (h : SkM w0 W lb l seed cnt bytes) : SkM w0 W.drew lb l seed cnt bytes := ⟨h.blk, h.old, Chain.below (Below.refl _ W).drew h.chain, h.nodup⟩
theorem KeepT.set {w : World} {b i : Nat} {v : Value} {cs : Array Value} {T : TypeId} {fr : Nat × Nat} (hb : w.heap[b]? = some (.cells cs T fr)) (hT : T = 105 ∨ T = 107) : KeepT w (w.setCell ⟨b, i, none⟩ v) := by
  refine ⟨by simp [World.setCell], fun j cs' T' fr' a h1 h2 => ?_⟩
  have hne : j ≠ b := fun e => by
    subst e
    rw [hb] at a
    injection a with a
    injection a with _ a2 _
    rcases hT with h | h
    · exact h1 (a2 ▸ h)
    · exact h2 (a2 ▸ h)
  exact (Below.heap_setCell w ⟨b, i, none⟩ v j hne).trans a
theorem size_ok (g : Bool) (row : List S46) (h : row.length * 32 ≤ 140737488355328) : ∃ n, skip_size.f (row.length + 9) g row = some n := by
  unfold skip_size.f
  have : ∀ d i k (x : Int), i + d = row.length → d < k → ∃ n, skip_size.l0 k x row (row.length : Int) (i : Int) = some n := by
    intro d
    induction d with
    | zero =>
      intro i k x hi hk
      obtain ⟨k, rfl⟩ : ∃ m, k = m + 1 := ⟨k - 1, by omega⟩
      rw [skip_size.l0, if_neg (by omega)]
      exact ⟨_, rfl⟩
    | succ d ih =>
      intro i k x hi hk
      obtain ⟨k, rfl⟩ : ∃ m, k = m + 1 := ⟨k - 1, by omega⟩
      have hw : wrap64 ((i : Int) + 1) = ((i + 1 : Nat) : Int) := by rw [IntWalk.wrap64_in _ (by omega)]; rfl
      rw [skip_size.l0, if_pos (by omega), if_pos (by omega), if_pos (by omega), hw]
      exact ih (i + 1) k _ (by omega) (by omega)
  exact this row.length 0 (row.length + 9) 8 (by omega) (by omega)
theorem alloc_size (w : World) (o : Obj) : (w.alloc o).heap.size = w.heap.size + 1 := by first | rfl | (rw [World.alloc_eq]; exact Array.size_push _) | (unfold World.alloc; exact Array.size_push _)
theorem R_keepL {W W1 : World} {base lb : Nat} {cs : Array Value} {V : Value} {x : List S46} (hk : Keep2 W W1 lb lb) (hb : W.heap[lb]? = some (.cells cs 107 (0, 0))) (h2 : Kd.R k46 46 W base (fun _ => True) V x) : Kd.R k46 46 W1 base (fun _ => True) V x := by
  have n1 := Kd.R_ne h2 hb (by decide)
  refine Kd.R_mono (Kd.R_kept (S := fun k => k = lb) (Kd.R_tight rfl h2) ⟨hk.1, fun i hi hs => hk.2 i hi hs hs⟩ ?_) (fun _ _ => trivial)
  rintro k ho rfl
  exact n1 ho
theorem KeepT.keep2 {w w' : World} {lb : Nat} {cs : Array Value} (hk : Keep2 w w' lb lb) (hb : w.heap[lb]? = some (.cells cs 107 (0, 0))) : KeepT w w' := by
  refine ⟨hk.1, fun i cs' T fr a h1 h2 => ?_⟩
  have hne : i ≠ lb := fun e => by
    rw [e, hb] at a
    injection a with a
    injection a with _ a2 _
    exact h2 a2.symm
  exact (hk.2 i (Array.getElem?_eq_some_iff.1 a).1 hne hne).trans a
def PutP (w0 w : World) (lb : Nat) (l : List Nd) (c : Nat) (d : S26) (w' : World) : Prop := ∃ (l' : List Nd) (seed' cnt' bytes' : Int), Sk w0 w' lb l' seed' cnt' bytes' ∧ l'.map (fun n => n.d) = (l.take c).map (fun n => n.d) ++ (d :: (if (foundB l c (keyOf d)).isSome = true then (l.drop (c + 1)).map (fun n => n.d) else (l.drop c).map (fun n => n.d))) ∧ Below w0.heap.size w0 w' ∧ KeepT w w'
theorem found_some {l : List Nd} {c : Nat} {k : S46} {a : Addr} (h : some a = foundB l c k) : ∃ hc : c < l.length, a = ⟨l[c].b, 0, none⟩ ∧ cmpV (keyOf l[c].d) k = 0 := by
  unfold foundB at h
  by_cases hc : c < l.length
  · rw [List.getElem?_eq_getElem hc] at h
    simp only at h
    by_cases hz : cmpV (keyOf l[c].d) k = 0
    · rw [if_pos hz] at h
      exact ⟨hc, Option.some.inj h, hz⟩
    · rw [if_neg hz] at h; cases h
  · rw [List.getElem?_eq_none (by omega)] at h
    cases h
theorem split_at (l : List Nd) (c : Nat) (h : c < l.length) : l = l.take c ++ l[c] :: l.drop (c + 1) := by
  rw [← List.drop_eq_getElem_cons h, List.take_append_drop]
theorem head_bytes (l : List Nd) (seed cnt bytes b' : Int) : (headCells l seed cnt bytes).setIfInBounds 12 (.int .i64 b') = headCells l seed cnt b' := by
  unfold headCells ptrs
  rfl
theorem head_cnt (l : List Nd) (seed cnt bytes c' : Int) : (headCells l seed cnt bytes).setIfInBounds 11 (.int .i64 c') = headCells l seed c' bytes := by
  unfold headCells ptrs
  rfl
theorem Sk.bytes {w0 W : World} {lb : Nat} {l : List Nd} {seed cnt bytes : Int} (h : Sk w0 W lb l seed cnt bytes) (b' : Int) : Sk w0 (W.setCell ⟨lb, 12, none⟩ (.int .i64 b')) lb l seed cnt b' := by
  have hb := blk_set h.blk 12 (.int .i64 b')
  rw [head_bytes] at hb
  exact ⟨hb, h.old, Chain.far h.blk (fun q hq => (typeV q hq).2) (chain_ne h.blk (by decide) h.chain) h.chain, h.nodup, h.pos⟩
theorem Sk.count {w0 W : World} {lb : Nat} {l : List Nd} {seed cnt bytes : Int} (h : Sk w0 W lb l seed cnt bytes) (c' : Int) : Sk w0 (W.setCell ⟨lb, 11, none⟩ (.int .i64 c')) lb l seed c' bytes := by
  have hb := blk_set h.blk 11 (.int .i64 c')
  rw [head_cnt] at hb
  exact ⟨hb, h.old, Chain.far h.blk (fun q hq => (typeV q hq).2) (chain_ne h.blk (by decide) h.chain) h.chain, h.nodup, h.pos⟩
set_option maxHeartbeats 16000000 in
set_option maxRecDepth 100000 in
theorem put.calls (w0 w : World) (lb : Nat) (l : List Nd) (seed cnt bytes : Int) (g : Bool) (A : Option Addr) (cap : Nat) (row : List S46) (c : Nat) (hS : Sk w0 w lb l seed cnt bytes) (hB : Below w0.heap.size w0 w) (hr : Kd.C k46 w A row.length row) (hcap : row.length ≤ cap) (hlen : 0 < row.length) (hsz : row.length * 32 ≤ 140737488355328) (hall : ∀ m ∈ l, m.d.f1.length * 32 ≤ 140737488355328) (hc : c ≤ l.length) (hk : ∀ q (hq : q < l.length), (cmpV (keyOf l[q].d) (row.getD 0 z46) < 0 ↔ q < c)) :
    Calls Tryz.prog 28 #[.pointer (some ⟨lb, 0, none⟩), .agg #[.bool g, .slice A row.length cap]] w fun e w' => e = .returned (.bool true) ∧ PutP w0 w lb l c ⟨g, row⟩ w' := by
  have hu := Tryz.underlying105
  have hu2 := Tryz.underlying107
  have hu3 := Tryz.underlying46
  have hu4 := Tryz.underlying26
  have hu5 := Tryz.underlying103
  have hu6 := Tryz.underlying24
  have b1 := below_alloc (Below.refl _ w) (.cells #[.bool g, .slice A row.length cap] 26)
  have k1 := blk_new w (.cells #[.bool g, .slice A row.length cap] 26)
  have HB1 := Aside0.mk b1; have HK1 := Aside0.mk k1
  have HS := Aside0.mk hS; have HB := Aside0.mk hB; have HR := Aside0.mk hr; have HC := Aside0.mk hc; have HK0 := Aside0.mk hk; have HSZ := Aside0.mk hsz; have HAL := Aside0.mk hall; have HLE := Aside0.mk hlen; have HCP := Aside0.mk hcap
  have e1 : ((row.length : Int) == 0) = false := beq_eq_false_iff_ne.mpr (by omega)
  have e2 : (row.length == 0) = false := beq_eq_false_iff_ne.mpr (by omega)
  have p1 := (blk_cell k1 1).trans (show #[Value.bool g, .slice A row.length cap][1]? = some (.slice A row.length cap) from rfl)
  have f1 := blk_frozen k1 1
  clear hS hB hr hc hk hsz hall hcap hlen b1 k1
  go_enter Tryz.func28, Tryz.ntmps28
  go_wp2_with fail
  generalize w.alloc (.cells #[.bool g, .slice A row.length cap] 26) = w1 at *
  refine (api_Value.calls A cap row row w1 (Kd.C_below HR.out HB1.out) HCP.out (by unfold api_Value.f; rw [if_pos HSZ.out])).mono ?_
  rintro e w2 ⟨V, rfl, hR2, hb2⟩
  obtain ⟨A2, c2, rfl⟩ := Kd.R_slice hR2
  have HR2 := Aside0.mk hR2; have HB2 := Aside0.mk hb2
  have HK2 := Aside0.mk ((hb2.block _ (Array.getElem?_eq_some_iff.1 HK1.out).1).trans HK1.out)
  clear hR2 hb2 p1 f1
  have p1 := (blk_cell HK2.out 1).trans (show #[Value.bool g, .slice A row.length cap][1]? = some (.slice A row.length cap) from rfl)
  have f1 := blk_frozen HK2.out 1
  go_wp2_with fail
  have HW3 : Aside0 (Below w.heap.size w (w2.setCell ⟨w.heap.size, 1, none⟩ (.slice A2 row.length c2))) := ⟨(HB1.out.trans (HB2.out.mono HB1.out.size)).setCell (Nat.le_refl _) _⟩
  have HSK3 : Aside0 (Sk w0 (w2.setCell ⟨w.heap.size, 1, none⟩ (.slice A2 row.length c2)) lb l seed cnt bytes) := ⟨HS.out.below HW3.out⟩
  have HK3 : Aside0 ((w2.setCell ⟨w.heap.size, 1, none⟩ (.slice A2 row.length c2)).heap[w.heap.size]? = some (.cells #[.bool g, .slice A2 row.length c2] 26 (0, 0))) := ⟨blk_set HK2.out 1 _⟩
  have HR3 : Aside0 (Kd.R k46 46 (w2.setCell ⟨w.heap.size, 1, none⟩ (.slice A2 row.length c2)) w0.heap.size (fun _ => True) (.slice A2 row.length c2) row) := ⟨Kd.R_set (Kd.R_lower HR2.out (Nat.le_trans HB.out.size HB1.out.size)) HK2.out (by decide) 1 _⟩
  clear HK1 HK2 HR2 HB1 HB2 p1 f1 HS HR HCP
  generalize w2.setCell ⟨w.heap.size, 1, none⟩ (.slice A2 row.length c2) = w3 at *
  have q0 := (blk_cell HK3.out 0).trans (show #[Value.bool g, .slice A2 row.length c2][0]? = some (.bool g) from rfl)
  have q1 := (blk_cell HK3.out 1).trans (show #[Value.bool g, .slice A2 row.length c2][1]? = some (.slice A2 row.length c2) from rfl)
  have s12 := cells_at2 HSK3.out.blk 12 (.int .i64 bytes) rfl
  have z12 := blk_frozen HSK3.out.blk 12
  obtain ⟨-, hcap2, hC2⟩ := Kd.R_reads' HR3.out
  have HCP2 := Aside0.mk hcap2; have HC2 := Aside0.mk hC2
  obtain ⟨n, hn⟩ := size_ok g row HSZ.out
  have HN := Aside0.mk hn
  clear hcap2 hC2 hn
  go_cut [] (fun wd => Sk w0 wd lb l seed cnt (IntKind.i64.wrap (bytes + n)) ∧ Below w0.heap.size w0 wd ∧ KeepT w wd ∧ wd.heap[w.heap.size]? = some (.cells #[.bool g, .slice A2 row.length c2] 26 (0, 0)) ∧ Kd.R k46 46 wd w0.heap.size (fun _ => True) (.slice A2 row.length c2) row)
  case first =>
    go_region_with (first | (go_at_call 60; refine (skip_size.calls (row.length + 9) g A2 c2 row n _ (Kd.C_below HC2.out (pw_below_drewN (Below.refl _ _) _)) HCP2.out HN.out).mono ?_; rintro e wv ⟨rfl, hb⟩; (have hbb := (pw_below_drewN (Below.refl w3.heap.size w3) _).trans hb); (have HBv := Aside0.mk hbb); (have s12v := cells_at2 (HSK3.out.below hbb).blk 12 (.int .i64 bytes) rfl); (have z12v := blk_frozen (HSK3.out.below hbb).blk 12); (have hdv := (hbb.block _ (Array.getElem?_eq_some_iff.1 HK3.out).1).trans HK3.out); (have q0v := (blk_cell hdv 0).trans (show #[Value.bool g, .slice A2 row.length c2][0]? = some (.bool g) from rfl)); (have q1v := (blk_cell hdv 1).trans (show #[Value.bool g, .slice A2 row.length c2][1]? = some (.slice A2 row.length c2) from rfl)); clear hb hbb hdv))
    all_goals (
      go_wp2_with fail
      go_meet
      case rel =>
        have hsk := HSK3.out.below HBv.out
        have hlw : w.heap.size ≠ lb := fun e => by have := HK3.out; rw [e, HSK3.out.blk] at this; simp at this
        exact ⟨hsk.bytes _, ((HB.out.trans (HW3.out.mono HB.out.size)).trans (HBv.out.mono (Nat.le_trans HB.out.size HW3.out.size))).setCell hsk.old _, (KeepT.below (HW3.out.trans (HBv.out.mono HW3.out.size))).trans (KeepT.set hsk.blk (.inr rfl)), blk_far (p := ⟨lb, 12, none⟩) ((HBv.out.block _ (Array.getElem?_eq_some_iff.1 HK3.out).1).trans HK3.out) hlw _, Kd.R_set (Kd.R_below HR3.out HBv.out) hsk.blk (fun q hq => (typeV q hq).2) 12 _⟩)
  case rest =>
    obtain ⟨hsk, hbw, hkt, hdb, hR⟩ := hcut
    clear HSK3 HW3 HK3 HR3 q0 q1 s12 z12 HC2 HN
    generalize IntKind.i64.wrap (bytes + n) = by1 at *
    obtain ⟨-, hcap2, hC2⟩ := Kd.R_reads' hR
    obtain ⟨ad, rfl, hx0, hx1, hx2⟩ := at_T46 hC2 0 (by omega) (by have := HLE.out; omega)
    obtain ⟨kv, hkv⟩ : ∃ kv, kv = row.getD 0 z46 := ⟨_, rfl⟩
    rw [show rd_T46 row 0 = kv from hkv.symm] at hx0 hx1 hx2
    have e00 : Int.toNat 0 * 3 = 0 := rfl
    rw [e00, Addr.add_zero'] at hx0 hx1 hx2
    have d1 := (blk_cell hdb 1).trans (show #[Value.bool g, .slice (some ad) row.length c2][1]? = some (.slice (some ad) row.length c2) from rfl)
    have hl0 : ((0 : Int) < (row.length : Int)) = True := eq_true (by have := HLE.out; omega)
    have hl1 : (0 < row.length) = True := eq_true HLE.out
    have hl2 : decide (0 < row.length) = true := decide_eq_true HLE.out
    have HSK := Aside0.mk hsk; have HBW := Aside0.mk hbw; have HKT := Aside0.mk hkt; have HDB := Aside0.mk hdb; have HR := Aside0.mk hR; have HKV := Aside0.mk hkv
    clear hsk hbw hkt hdb hR hcap2 hC2 hkv
    go_wp2_with fail
    refine (find.calls w0 wc lb l seed cnt by1 kv c HSK.out HC.out (by rw [HKV.out]; exact HK0.out)).mono ?_
    rintro e w5 ⟨rfl, hb5⟩
    have HSK5 := Aside0.mk (HSK.out.below hb5)
    have HBW5 := Aside0.mk (HBW.out.trans (hb5.mono HBW.out.size))
    have HKT5 := Aside0.mk (HKT.out.trans (KeepT.below hb5))
    have HDB5 := Aside0.mk ((hb5.block _ (Array.getElem?_eq_some_iff.1 HDB.out).1).trans HDB.out)
    have HR5 := Aside0.mk (Kd.R_below HR.out hb5)
    clear HSK HBW HKT HDB HR d1 hx0 hx1 hx2 hb5
    obtain ⟨fb, hfb⟩ : ∃ fb, fb = foundB l c kv := ⟨_, rfl⟩
    have HFB := Aside0.mk hfb
    rw [← hfb]
    clear hfb
    cases fb with
    | none =>
      obtain ⟨-, hcap2, hC2⟩ := Kd.R_reads' HR5.out
      obtain ⟨ad2, had, hx0, hx1, hx2⟩ := at_T46 hC2 0 (by omega) (by have := HLE.out; omega)
      obtain rfl := Option.some.inj had
      rw [show rd_T46 row 0 = kv from HKV.out.symm] at hx0 hx1 hx2
      rw [e00, Addr.add_zero'] at hx0 hx1 hx2
      have d1 := (blk_cell HDB5.out 1).trans (show #[Value.bool g, .slice (some ad) row.length c2][1]? = some (.slice (some ad) row.length c2) from rfl)
      clear hcap2 hC2
      go_wp2_with fail
      refine (path.calls w0 w5 lb l seed cnt by1 kv c HSK5.out HC.out (by rw [HKV.out]; exact HK0.out)).mono ?_
      rintro e w6 ⟨rfl, hb6⟩
      have HSK6 := Aside0.mk (HSK5.out.below hb6)
      have HBW6 := Aside0.mk (HBW5.out.trans (hb6.mono HBW5.out.size))
      have HKT6 := Aside0.mk (HKT5.out.trans (KeepT.below hb6))
      have HDB6 := Aside0.mk ((hb6.block _ (Array.getElem?_eq_some_iff.1 HDB5.out).1).trans HDB5.out)
      have HR6 := Aside0.mk (Kd.R_below HR5.out hb6)
      clear HSK5 HBW5 HKT5 HDB5 HR5 d1 hx0 hx1 hx2 hb6
      obtain ⟨p0, p1, p2, p3, p4, p5, p6, p7, hp⟩ : ∃ p0 p1 p2 p3 p4 p5 p6 p7 : Option Addr, outA lb l c 0 = #[.pointer p0, .pointer p1, .pointer p2, .pointer p3, .pointer p4, .pointer p5, .pointer p6, .pointer p7] := ⟨_, _, _, _, _, _, _, _, rfl⟩
      have HP := Aside0.mk hp
      rw [hp]
      clear hp
      have d0 := (blk_cell HDB6.out 0).trans (show #[Value.bool g, .slice (some ad) row.length c2][0]? = some (.bool g) from rfl)
      have d1 := (blk_cell HDB6.out 1).trans (show #[Value.bool g, .slice (some ad) row.length c2][1]? = some (.slice (some ad) row.length c2) from rfl)
      have d2 : w.heap.size < w6.heap.size := (Array.getElem?_eq_some_iff.1 HDB6.out).1
      go_wp2_with fail
      have hz : (w6.alloc (.cells #[.pointer p0, .pointer p1, .pointer p2, .pointer p3, .pointer p4, .pointer p5, .pointer p6, .pointer p7] 103)).heap.size = w6.heap.size + 1 := alloc_size _ _
      have b7 := below_alloc (below_alloc (Below.refl _ w6) (.cells #[.pointer p0, .pointer p1, .pointer p2, .pointer p3, .pointer p4, .pointer p5, .pointer p6, .pointer p7] 103)) (.cells #[.bool g, .slice (some ad) row.length c2, .pointer none, .pointer none, .pointer none, .pointer none, .pointer none, .pointer none, .pointer none, .pointer none] 105)
      have k7n := blk_new (w6.alloc (.cells #[.pointer p0, .pointer p1, .pointer p2, .pointer p3, .pointer p4, .pointer p5, .pointer p6, .pointer p7] 103)) (.cells #[.bool g, .slice (some ad) row.length c2, .pointer none, .pointer none, .pointer none, .pointer none, .pointer none, .pointer none, .pointer none, .pointer none] 105)
      have k7a := ((below_alloc (Below.refl _ (w6.alloc (.cells #[.pointer p0, .pointer p1, .pointer p2, .pointer p3, .pointer p4, .pointer p5, .pointer p6, .pointer p7] 103))) (.cells #[.bool g, .slice (some ad) row.length c2, .pointer none, .pointer none, .pointer none, .pointer none, .pointer none, .pointer none, .pointer none, .pointer none] 105)).block w6.heap.size (by omega)).trans (blk_new w6 (.cells #[.pointer p0, .pointer p1, .pointer p2, .pointer p3, .pointer p4, .pointer p5, .pointer p6, .pointer p7] 103))
      rw [hz] at k7n
      have HB7 := Aside0.mk b7; have HKN := Aside0.mk k7n; have HKA := Aside0.mk k7a
      clear b7 k7n k7a hz
      generalize World.alloc (w6.alloc _) _ = w7 at *
      have HSK7 := Aside0.mk (HSK6.out.below HB7.out)
      have HBW7 := Aside0.mk (HBW6.out.trans (HB7.out.mono HBW6.out.size))
      refine (levels.calls w0 w7 lb l seed cnt by1 HSK7.out HBW7.out).mono ?_
      rintro e w8 ⟨n8, seed8, h1, h8, rfl, hb8, hk8, hbw8⟩
      have HMID := Aside0.mk (show SkM w0 w8 lb l seed8 cnt by1 from ⟨hb8, HSK7.out.old, Keep2.chain hk8 HSK7.out.blk HSK7.out.chain, HSK7.out.nodup⟩)
      have HR8 := Aside0.mk (R_keepL hk8 HSK7.out.blk (Kd.R_below HR6.out HB7.out))
      have HKT8 := Aside0.mk ((HKT6.out.trans (KeepT.below HB7.out)).trans (KeepT.keep2 hk8 HSK7.out.blk))
      have hla : w6.heap.size ≠ lb := fun e => by have := HSK7.out.blk; rw [← e, HKA.out] at this; simp at this
      have hln : w6.heap.size + 1 ≠ lb := fun e => by have := HSK7.out.blk; rw [← e, HKN.out] at this; simp at this
      have HKA8 := Aside0.mk ((hk8.2 _ (Array.getElem?_eq_some_iff.1 HKA.out).1 hla hla).trans HKA.out)
      have HKN8 := Aside0.mk ((hk8.2 _ (Array.getElem?_eq_some_iff.1 HKN.out).1 hln hln).trans HKN.out)
      have HMS := Aside0.mk (show SkM w0 w8 lb (l.take c ++ ⟨w6.heap.size + 1, ⟨g, row⟩, 0⟩ :: l.drop c) seed8 cnt by1 from SkM.start (V := .slice (some ad) row.length c2) (d := ⟨g, row⟩) (pre := l.take c) (post := l.drop c) (by rw [List.take_append_drop]; exact HMID.out) HKN8.out (Nat.le_trans HBW6.out.size (by omega)) HR8.out HLE.out (by rw [List.take_append_drop]; intro m hm e; have := chain_lt HSK6.out.chain m hm; omega))
      have HBW8 := Aside0.mk hbw8
      have HPOS : Aside0 (∀ m ∈ l, 1 ≤ m.h) := ⟨fun m hm => by obtain ⟨q, hq, rfl⟩ := List.getElem_of_mem hm; exact HSK6.out.pos q hq⟩
      have HN8 := Aside0.mk (And.intro h1 h8)
      have HGE : Aside0 (w0.heap.size ≤ w6.heap.size + 1) := ⟨Nat.le_trans HBW6.out.size (by omega)⟩
      have hab : w6.heap.size ≠ w6.heap.size + 1 := by omega
      clear HMID HR8 HKN8 HKN HKA HB7 HSK7 HBW7 HSK6 HBW6 HKT6 HDB6 HR6 d0 d1 d2 hb8 hk8 hbw8 h1 h8 hla hln
      generalize w6.heap.size + 1 = nb at *
      generalize w6.heap.size = ab at *
      have hab2 : nb ≠ ab := Ne.symm hab
      go_upto_block 0 with fail
      go_cut [] (fun wd => SkM w0 wd lb (l.take c ++ ⟨nb, ⟨g, row⟩, n8⟩ :: l.drop c) seed8 cnt by1 ∧ Below w0.heap.size w0 wd ∧ KeepT w wd)
      case first =>
        go_wp2_with fail
        go_loopg [65] n8 (fun gg s65 wr => ∃ i : Nat, i ≤ n8 ∧ n8 - i ≤ gg ∧ s65 = .int .i64 (i : Int) ∧ Aside0 (SkM w0 wr lb (l.take c ++ ⟨nb, ⟨g, row⟩, i⟩ :: l.drop c) seed8 cnt by1) ∧ Aside0 (Below w0.heap.size w0 wr) ∧ Aside0 (KeepT w wr) ∧ Aside0 (wr.heap[ab]? = some (.cells #[.pointer p0, .pointer p1, .pointer p2, .pointer p3, .pointer p4, .pointer p5, .pointer p6, .pointer p7] 103 (0, 0))))
        case atStart => exact ⟨0, by omega, by omega, rfl, HMS, HBW8, HKT8, HKA8⟩
        case round =>
          clear HMS HBW8 HKT8 HKA8
          rename World => wr
          obtain ⟨i, hi, hgg, rfl, HM, HBW, HKT, HKA⟩ := hrel
          by_cases hlt : i < n8
          · have hi8 : i < 8 := by have := HN8.out; omega
            obtain ⟨x1, x2, x3, ⟨v0, x4⟩, x5, x6, ⟨cs, T, x7, x8⟩, ⟨cs2, x9⟩, x10⟩ := HM.out.raise hi8 HC.out HGE.out
            have ap := (blk_cell HKA.out i).trans (show _ = some (.pointer (some ⟨atB lb l (outP l i c), 0, none⟩)) by rw [← HP.out]; exact outA_at lb l c i hi8)
            have e66 : decide ((i : Int) < (n8 : Int)) = true := decide_eq_true (by omega)
            have e67 : decide (i < n8) = true := decide_eq_true hlt
            have g2 : ((i : Int) ≥ 0) = True := eq_true (by omega)
            have g3 : decide ((i : Int) ≥ 0) = true := decide_eq_true (by omega)
            have g4 : ((0 : Int) ≤ (i : Int)) = True := eq_true (by omega)
            have g5 : ((i : Int) < 8) = True := eq_true (by omega)
            have g5b : (i < 8) = True := eq_true hi8
            have g6 : IntKind.i64.wrap ((i : Int) + 1) = ((i + 1 : Nat) : Int) := by rw [IntWalk.i64_in _ (by omega)]; rfl
            have hap : ab ≠ atB lb l (outP l i c) := fun e => by
              rw [← e, HKA.out] at x7
              injection x7 with x7
              injection x7 with _ a2 _
              rcases x8 with h | h <;> (rw [h] at a2; exact absurd a2 (by decide))
            have hpa := Ne.symm hap
            have x5b := Ne.symm x5
            have HX := Aside0.mk x10
            have HK2 : Aside0 (KeepT w ((wr.setCell ⟨nb, 2 + i, none⟩ (.pointer (nextAt i (l.drop c)))).setCell ⟨atB lb l (outP l i c), 2 + i, none⟩ (.pointer (some ⟨nb, 0, none⟩)))) := ⟨(HKT.out.trans (KeepT.set x9 (.inl rfl))).trans (KeepT.set (blk_far (p := ⟨nb, 2 + i, none⟩) x7 x5b _) x8)⟩
            have HB2 : Aside0 (Below w0.heap.size w0 ((wr.setCell ⟨nb, 2 + i, none⟩ (.pointer (nextAt i (l.drop c)))).setCell ⟨atB lb l (outP l i c), 2 + i, none⟩ (.pointer (some ⟨nb, 0, none⟩)))) := ⟨(HBW.out.setCell (p := ⟨nb, 2 + i, none⟩) HGE.out _).setCell (p := ⟨atB lb l (outP l i c), 2 + i, none⟩) x6 _⟩
            have HA2 : Aside0 (((wr.setCell ⟨nb, 2 + i, none⟩ (.pointer (nextAt i (l.drop c)))).setCell ⟨atB lb l (outP l i c), 2 + i, none⟩ (.pointer (some ⟨nb, 0, none⟩))).heap[ab]? = some (.cells #[.pointer p0, .pointer p1, .pointer p2, .pointer p3, .pointer p4, .pointer p5, .pointer p6, .pointer p7] 103 (0, 0))) := ⟨blk_far (p := ⟨atB lb l (outP l i c), 2 + i, none⟩) (blk_far (p := ⟨nb, 2 + i, none⟩) HKA.out hab _) hap _⟩
            have HI := Aside0.mk (And.intro hlt hgg)
            clear x10 x9 x8 x7 x6 hi hgg hlt HM HBW HKT HKA hi8
            generalize atB lb l (outP l i c) = pb at *
            generalize nextAt i (l.drop c) = nx at *
            go_wp2_with fail
            go_region_with (fail)
            all_goals (
              go_wp2_with fail
              go_roundg (n8 - (i + 1))
              case measure => have := HI.out; omega
              case rel => exact ⟨i + 1, by have := HI.out.1; omega, Nat.le_refl _, rfl, ⟨HX.out.drew⟩, ⟨HB2.out.drew⟩, ⟨KeepT.drew HK2.out⟩, ⟨HA2.out⟩⟩)
          · have e66 : decide ((i : Int) < (n8 : Int)) = false := decide_eq_false (by omega)
            have e67 : decide (i < n8) = false := decide_eq_false hlt
            obtain rfl : i = n8 := by omega
            clear hi hgg hlt
            go_wp2_with fail
            go_meet
            case rel => exact ⟨HM.out, HBW.out, HKT.out⟩
      case rest =>
        obtain ⟨hm, hbw, hkt⟩ := hcut
        have hpos : ∀ j (hj : j < (l.take c ++ (⟨nb, ⟨g, row⟩, n8⟩ : Nd) :: l.drop c).length), 1 ≤ (l.take c ++ (⟨nb, ⟨g, row⟩, n8⟩ : Nd) :: l.drop c)[j].h := fun j hj => by
          have hx := List.getElem_mem hj
          generalize (l.take c ++ (⟨nb, ⟨g, row⟩, n8⟩ : Nd) :: l.drop c)[j] = x at hx ⊢
          have hold : ∀ m ∈ l, 1 ≤ m.h := HPOS.out
          rcases List.mem_append.1 hx with hx | hx
          · exact hold x (List.mem_of_mem_take hx)
          · rcases List.mem_cons.1 hx with rfl | hx
            · exact HN8.out.1
            · exact hold x (List.mem_of_mem_drop hx)
        have hsk : Sk w0 wc lb (l.take c ++ (⟨nb, ⟨g, row⟩, n8⟩ : Nd) :: l.drop c) seed8 cnt by1 := ⟨hm.blk, hm.old, hm.chain, hm.nodup, hpos⟩
        have s11 := cells_at2 hsk.blk 11 (.int .i64 cnt) rfl
        have z11 := blk_frozen hsk.blk 11
        have HS1 := Aside0.mk (hsk.count (wrap64 (cnt + 1)))
        have HB1 := Aside0.mk (hbw.setCell (p := ⟨lb, 11, none⟩) hsk.old (.int .i64 (wrap64 (cnt + 1))))
        have HK1 := Aside0.mk (hkt.trans (KeepT.set (i := 11) (v := .int .i64 (wrap64 (cnt + 1))) hsk.blk (.inr rfl)))
        clear hm hbw hkt hpos hsk
        go_wp2_with fail
        go_ret
        have hd : ¬ (foundB l c (row.getD 0 z46)).isSome = true := by rw [← HKV.out, ← HFB.out]; simp
        refine ⟨rfl, _, _, _, _, HS1.out, ?_, HB1.out, HK1.out⟩
        rw [show (keyOf (⟨g, row⟩ : S26)) = row.getD 0 z46 from rfl, if_neg hd, List.map_append, List.map_cons]
    | some a =>
      obtain ⟨hcl, rfl, -⟩ := found_some HFB.out
      obtain ⟨⟨V, hV, hRn⟩, -, -, -, hlen⟩ := HSK5.out.chain.at c hcl
      obtain ⟨A0, cap0, rfl, hcap0, hC0⟩ := Kd.R_reads hRn
      have hsp := split_at l c hcl
      have hmem : l[c] ∈ l := List.getElem_mem hcl
      obtain ⟨n2, hn2⟩ := size_ok l[c].d.f0 l[c].d.f1 (HAL.out _ hmem)
      have v0 := cells_at2 hV 0 (.bool l[c].d.f0) rfl
      have v1 := cells_at2 hV 1 (.slice A0 l[c].d.f1.length cap0) rfl
      have s12 := cells_at2 HSK5.out.blk 12 (.int .i64 by1) rfl
      have z12 := blk_frozen HSK5.out.blk 12
      generalize l[c] = n0 at *
      obtain ⟨nb, ⟨g0, row0⟩, nh⟩ := n0
      have HSP := Aside0.mk hsp; have HN2 := Aside0.mk hn2; have HC0 := Aside0.mk hC0; have HCP0 := Aside0.mk hcap0; have HV := Aside0.mk hV
      clear hsp hn2 hC0 hcap0 hV hRn hlen hmem
      go_wp2_with fail
      go_cut [] (fun wd => Sk w0 wd lb l seed cnt (IntKind.i64.wrap (by1 - n2)) ∧ Below w0.heap.size w0 wd ∧ KeepT w wd ∧ wd.heap[w.heap.size]? = some (.cells #[.bool g, .slice (some ad) row.length c2] 26 (0, 0)) ∧ Kd.R k46 46 wd w0.heap.size (fun _ => True) (.slice (some ad) row.length c2) row)
      case first =>
        go_region_with (first | (go_at_call 60; refine (skip_size.calls (row0.length + 9) g0 A0 cap0 row0 n2 _ (Kd.C_below HC0.out (pw_below_drewN (Below.refl _ _) _)) HCP0.out HN2.out).mono ?_; rintro e wv ⟨rfl, hb⟩; (have hbb := (pw_below_drewN (Below.refl w5.heap.size w5) _).trans hb); (have HBv := Aside0.mk hbb); (have s12v := cells_at2 (HSK5.out.below hbb).blk 12 (.int .i64 by1) rfl); (have z12v := blk_frozen (HSK5.out.below hbb).blk 12); clear hb hbb))
        all_goals (
          go_wp2_with fail
          go_meet
          case rel =>
            have hsk := HSK5.out.below HBv.out
            have hlw : w.heap.size ≠ lb := fun e => by have := HDB5.out; rw [e, HSK5.out.blk] at this; simp at this
            exact ⟨hsk.bytes _, (HBW5.out.trans (HBv.out.mono HBW5.out.size)).setCell hsk.old _, (HKT5.out.trans (KeepT.below HBv.out)).trans (KeepT.set hsk.blk (.inr rfl)), blk_far (p := ⟨lb, 12, none⟩) ((HBv.out.block _ (Array.getElem?_eq_some_iff.1 HDB5.out).1).trans HDB5.out) hlw _, Kd.R_set (Kd.R_below HR5.out HBv.out) hsk.blk (fun q hq => (typeV q hq).2) 12 _⟩)
      case rest =>
        obtain ⟨hsk, hbw, hkt, hdb, hR⟩ := hcut
        clear HSK5 HBW5 HKT5 HDB5 HR5 HC0 HN2 v0 v1 s12 z12 HV
        generalize IntKind.i64.wrap (by1 - n2) = by2 at *
        have hsk2 := hsk
        rw [HSP.out] at hsk2
        obtain ⟨_, ⟨V, hV, -⟩, hge, -⟩ := (chain_append _ _ _ _).1 hsk2.chain
        have d0 := (blk_cell hdb 0).trans (show #[Value.bool g, .slice (some ad) row.length c2][0]? = some (.bool g) from rfl)
        have d1 := (blk_cell hdb 1).trans (show #[Value.bool g, .slice (some ad) row.length c2][1]? = some (.slice (some ad) row.length c2) from rfl)
        have z0 := blk_frozen hV 0
        have z1 := blk_frozen hV 1
        have v0 := cells_at2 hV 0 (.bool g0) rfl
        have v1 := cells_at2 hV 1 V rfl
        have hredo := hsk2.redo (d' := ⟨g, row⟩) hR HLE.out
        have hbw2 := (hbw.setCell (p := ⟨nb, 0, none⟩) hge (.bool g)).setCell (p := ⟨nb, 1, none⟩) hge (.slice (some ad) row.length c2)
        have hkt2 := (hkt.trans (KeepT.set (i := 0) (v := .bool g) hV (.inl rfl))).trans (KeepT.set (i := 1) (v := .slice (some ad) row.length c2) (blk_set hV 0 (.bool g)) (.inl rfl))
        have HRE := Aside0.mk hredo; have HBW2 := Aside0.mk hbw2; have HKT2 := Aside0.mk hkt2
        clear hsk hbw hkt hdb hR hsk2 hV hge hredo hbw2 hkt2
        go_wp2_with fail
        go_ret
        have hd : (foundB l c (row.getD 0 z46)).isSome = true := by rw [← HKV.out, ← HFB.out]; rfl
        refine ⟨rfl, _, _, _, _, HRE.out, ?_, HBW2.out, HKT2.out⟩
        rw [show (keyOf (⟨g, row⟩ : S26)) = row.getD 0 z46 from rfl, if_pos hd, List.map_append, List.map_cons]
end Go.Proofs.YtojcbknclfamhaaGreatDoor.A
