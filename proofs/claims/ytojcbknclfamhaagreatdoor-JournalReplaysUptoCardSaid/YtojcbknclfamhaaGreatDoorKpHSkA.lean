/- The skip list: how it lies in memory. · skip.List.path: of each level the last node ahead of a key. · skip.List.find: the node of a key. · skip.List.levels: how many levels the next node has. · skip.New: a list without nodes. -/
import Derived.Test.YtojcbknclfamhaaGreatDoorKpAx0
import Derived.Test.YtojcbknclfamhaaGreatDoorKpBxCmp
import Derived.Deep.RegionWith
import Derived.Test.YtojcbknclfamhaaGreatDoorKpHRdr
import Derived.StillTailTactics
namespace Go.Proofs.YtojcbknclfamhaaGreatDoor.A
open Go.RowKit Go.Proofs.YtojcbknclfamhaaGreatDoorW.PrintWords Go.Proofs.YtojcbknclfamhaaGreatDoorW.PrintLast Go.Proofs.YtojcbknclfamhaaGreatDoorW.PrintMore
set_option linter.unusedVariables false
set_option linter.unusedSimpArgs false
structure Nd where
  b : Nat
  d : S26
  h : Nat
def keyOf (d : S26) : S46 := d.f1.getD 0 z46
def cmpV (a b : S46) : Int := (kinds_Compare.f 10 a.f0 a.f1 a.f2 b.f0 b.f1 b.f2).getD 0
def nextAt (i : Nat) (l : List Nd) : Option Addr := (l.find? (fun n => decide (i < n.h))).map (fun n => ⟨n.b, 0, none⟩)
def ptrs (h : Nat) (l : List Nd) : List Value := (List.range 8).map fun i => .pointer (if i < h then nextAt i l else none)
def headCells (l : List Nd) (seed cnt bytes : Int) : Array Value := (([.bool false, .slice none 0 0] : List Value) ++ (ptrs 8 l ++ ([.int .u64 seed, .int .i64 cnt, .int .i64 bytes] : List Value))).toArray
def nodeCells (n : Nd) (V : Value) (rest : List Nd) : Array Value := (([.bool n.d.f0, V] : List Value) ++ ptrs n.h rest).toArray
theorem ptrs_length (h : Nat) (l : List Nd) : (ptrs h l).length = 8 := by simp [ptrs]
theorem ptrs_at (h : Nat) (l : List Nd) (i : Nat) (hi : i < 8) : (ptrs h l)[i]? = some (.pointer (if i < h then nextAt i l else none)) := by simp [ptrs, hi]
def Chain (W : World) (base : Nat) : List Nd → Prop
  | [] => True
  | n :: rest => (∃ V, W.heap[n.b]? = some (.cells (nodeCells n V rest) 105 (0, 0)) ∧ Kd.R k46 46 W base (fun _ => True) V n.d.f1) ∧ base ≤ n.b ∧ 0 ≤ n.h ∧ n.h ≤ 8 ∧ 0 < n.d.f1.length ∧ Chain W base rest
structure Sk (w0 W : World) (lb : Nat) (l : List Nd) (seed cnt bytes : Int) : Prop where
  blk : W.heap[lb]? = some (.cells (headCells l seed cnt bytes) 107 (0, 0))
  old : w0.heap.size ≤ lb
  chain : Chain W w0.heap.size l
  nodup : (l.map (fun n => n.b)).Nodup
  pos : ∀ j (hj : j < l.length), 1 ≤ l[j].h
def atB (lb : Nat) (l : List Nd) (p : Nat) : Nat := if p = 0 then lb else (l.getD (p - 1) ⟨lb, ⟨false, []⟩, 8⟩).b
theorem Chain.at {W : World} {base : Nat} : ∀ {l : List Nd} (h : Chain W base l) (j : Nat) (hj : j < l.length), (∃ V, W.heap[l[j].b]? = some (.cells (nodeCells l[j] V (l.drop (j + 1))) 105 (0, 0)) ∧ Kd.R k46 46 W base (fun _ => True) V l[j].d.f1) ∧ base ≤ l[j].b ∧ 0 ≤ l[j].h ∧ l[j].h ≤ 8 ∧ 0 < l[j].d.f1.length
  | n :: rest, h, 0, hj => ⟨h.1, h.2.1, h.2.2.1, h.2.2.2.1, h.2.2.2.2.1⟩
  | n :: rest, h, j + 1, hj => by
    have := Chain.at h.2.2.2.2.2 j (by simpa using hj)
    simpa using this
theorem Chain.below {W W1 : World} {base : Nat} (hb : Below W.heap.size W W1) : ∀ {l : List Nd}, Chain W base l → Chain W1 base l
  | [], _ => trivial
  | n :: rest, ⟨⟨V, h1, h2⟩, h3, h4, h5, h6, h7⟩ => ⟨⟨V, (hb.block _ (Array.getElem?_eq_some_iff.1 h1).1).trans h1, Kd.R_below h2 hb⟩, h3, h4, h5, h6, Chain.below hb h7⟩
theorem Sk.below {w0 W W1 : World} {lb : Nat} {l : List Nd} {seed cnt bytes : Int} (h : Sk w0 W lb l seed cnt bytes) (hb : Below W.heap.size W W1) : Sk w0 W1 lb l seed cnt bytes :=
  ⟨(hb.block _ (Array.getElem?_eq_some_iff.1 h.blk).1).trans h.blk, h.old, h.chain.below hb, h.nodup, h.pos⟩
theorem cells_at2 {W : World} {b : Nat} {cs : Array Value} {t : TypeId} (h : W.heap[b]? = some (.cells cs t (0, 0))) (i : Nat) (v : Value) (hv : cs[i]? = some v) : W.cell? ⟨b, i, none⟩ = some v := (blk_cell h i).trans hv
theorem Sk.next {w0 W : World} {lb : Nat} {l : List Nd} {seed cnt bytes : Int} (h : Sk w0 W lb l seed cnt bytes) (p i : Nat) (hp : p ≤ l.length) (hi : i < 8) (hh : p = 0 ∨ ∃ h2 : p - 1 < l.length, i < l[p - 1].h) : W.cell? ⟨atB lb l p, 2 + i, none⟩ = some (.pointer (nextAt i (l.drop p))) := by
  unfold atB
  by_cases h0 : p = 0
  · rw [if_pos h0, h0, List.drop_zero]
    refine cells_at2 h.blk _ _ ?_
    unfold headCells
    rw [List.getElem?_toArray, List.getElem?_append_right (by simp), List.getElem?_append_left (by rw [ptrs_length]; simp; omega)]
    simp only [List.length_cons, List.length_nil]
    rw [show 2 + i - (0 + 1 + 1) = i by omega, ptrs_at 8 l i hi, if_pos hi]
  · rw [if_neg h0]
    obtain ⟨h2, h3⟩ := hh.resolve_left h0
    obtain ⟨⟨V, hV, -⟩, -⟩ := h.chain.at (p - 1) h2
    rw [show p - 1 + 1 = p by omega] at hV
    have e : (l.getD (p - 1) ⟨lb, ⟨false, []⟩, 8⟩) = l[p - 1] := by simp [List.getD, h2]
    rw [e]
    refine cells_at2 hV _ _ ?_
    unfold nodeCells
    rw [List.getElem?_toArray, List.getElem?_append_right (by simp)]
    simp only [List.length_cons, List.length_nil]
    rw [show 2 + i - (0 + 1 + 1) = i by omega, ptrs_at _ _ i hi, if_pos h3]
theorem next_split (i : Nat) : ∀ (m : List Nd), (nextAt i m = none ∧ ∀ x ∈ m, x.h ≤ i) ∨ ∃ (j : Nat) (hj : j < m.length), i < m[j].h ∧ (∀ q (hq : q < m.length), q < j → m[q].h ≤ i) ∧ nextAt i m = some ⟨m[j].b, 0, none⟩
  | [] => .inl ⟨rfl, fun x hx => by cases hx⟩
  | n :: m => by
    by_cases hn : i < n.h
    · refine .inr ⟨0, by simp, hn, fun q _ hq => absurd hq (by omega), ?_⟩
      unfold nextAt
      rw [List.find?_cons_of_pos (by simpa using hn)]
      rfl
    · have e : nextAt i (n :: m) = nextAt i m := by
        unfold nextAt
        rw [List.find?_cons_of_neg (by simpa using hn)]
      rw [e]
      rcases next_split i m with ⟨h1, h2⟩ | ⟨j, hj, h1, h2, h3⟩
      · refine .inl ⟨h1, fun x hx => ?_⟩
        rcases List.mem_cons.1 hx with rfl | hx
        · omega
        · exact h2 x hx
      · refine .inr ⟨j + 1, by simpa using hj, by simpa using h1, fun q hq hlt => ?_, by simpa using h3⟩
        cases q with
        | zero => show n.h ≤ i; omega
        | succ q => exact h2 q (by simpa using hq) (by omega)
def outP (l : List Nd) (i : Nat) : Nat → Nat
  | 0 => 0
  | c + 1 => if i < (l.getD c ⟨0, ⟨false, []⟩, 0⟩).h then c + 1 else outP l i c
theorem getD_nd (l : List Nd) (c : Nat) (h : c < l.length) : l.getD c ⟨0, ⟨false, []⟩, 0⟩ = l[c] := by simp [List.getD, h]
theorem outP_eq (l : List Nd) (i p : Nat) : ∀ c, c ≤ l.length → p ≤ c → (p = 0 ∨ ∃ h2 : p - 1 < l.length, i < l[p - 1].h) → (∀ q (hq : q < l.length), p ≤ q → q < c → l[q].h ≤ i) → outP l i c = p
  | 0, _, hp, _, _ => by unfold outP; omega
  | c + 1, hc, hp, hh, hq => by
    unfold outP
    rw [getD_nd l c (by omega)]
    by_cases he : p = c + 1
    · subst he
      obtain ⟨h2, h3⟩ := hh.resolve_left (by omega)
      simp only [Nat.add_sub_cancel] at h3
      rw [if_pos h3]
    · rw [if_neg (by have := hq c (by omega) (by omega) (by omega); omega)]
      exact outP_eq l i p c (by omega) (by omega) hh (fun q h1 h2 h3 => hq q h1 h2 (by omega))
theorem outP_le (l : List Nd) (i : Nat) : ∀ c, outP l i c ≤ c
  | 0 => Nat.le_refl _
  | c + 1 => by unfold outP; split; exact Nat.le_refl _; exact Nat.le_succ_of_le (outP_le l i c)
theorem outP_h (l : List Nd) (i : Nat) : ∀ c, c ≤ l.length → outP l i c = 0 ∨ ∃ h2 : outP l i c - 1 < l.length, i < l[outP l i c - 1].h
  | 0, _ => .inl rfl
  | c + 1, hc => by
    by_cases hi : i < (l.getD c ⟨0, ⟨false, []⟩, 0⟩).h
    · have e : outP l i (c + 1) = c + 1 := by unfold outP; rw [if_pos hi]
      rw [getD_nd l c (by omega)] at hi
      rw [e]
      exact .inr ⟨by omega, by simpa using hi⟩
    · have e : outP l i (c + 1) = outP l i c := by conv => lhs; unfold outP; rw [if_neg hi]
      rw [e]
      exact outP_h l i c (by omega)
def outA (lb : Nat) (l : List Nd) (c i : Nat) : Array Value := ((List.range 8).map fun q => Value.pointer (if i ≤ q then some ⟨atB lb l (outP l q c), 0, none⟩ else none)).toArray
theorem outA_set (lb : Nat) (l : List Nd) (c i : Nat) (hi : i < 8) : (outA lb l c (i + 1)).setIfInBounds i (.pointer (some ⟨atB lb l (outP l i c), 0, none⟩)) = outA lb l c i := by
  apply Array.ext'
  unfold outA
  rw [Array.toList_setIfInBounds]
  apply List.ext_getElem?
  intro q
  rw [List.getElem?_set]
  by_cases hq : i = q
  · subst hq
    rw [if_pos rfl, if_pos (by simpa using hi)]
    simp [hi]
  · rw [if_neg hq]
    by_cases h8 : q < 8
    · simp only [List.getElem?_map, List.getElem?_range h8, Option.map_some]
      congr 2
      by_cases h1 : i ≤ q
      · rw [if_pos h1, if_pos (by omega)]
      · rw [if_neg h1, if_neg (by omega)]
    · simp [h8]
end Go.Proofs.YtojcbknclfamhaaGreatDoor.A
namespace Go.Proofs.YtojcbknclfamhaaGreatDoor.A
open Go.RowKit Go.Proofs.YtojcbknclfamhaaGreatDoorW.PrintWords Go.Proofs.YtojcbknclfamhaaGreatDoorW.PrintLast Go.Proofs.YtojcbknclfamhaaGreatDoorW.PrintMore
set_option linter.unusedVariables false
set_option linter.unusedSimpArgs false
theorem or_f9 (t u : Int) : cmp_Or_int.f 9 [t, u] = some (if t = 0 then u else t) := by
  unfold cmp_Or_int.f
  have w1 : wrap64 (0 + 1) = 1 := by unfold wrap64; omega
  have w2 : wrap64 (1 + 1) = 2 := by unfold wrap64; omega
  simp only [List.length_cons, List.length_nil]
  rw [cmp_Or_int.l0, if_pos (by omega), if_pos (by omega), if_pos (by simp), show rd [t, u] 0 = t from rfl, w1]
  by_cases h : t = 0
  · rw [if_pos h, if_pos h, cmp_Or_int.l0, if_pos (by omega), if_pos (by omega), if_pos (by simp), show rd [t, u] 1 = u from rfl, w2]
    by_cases h2 : u = 0
    · rw [if_pos h2, cmp_Or_int.l0, if_neg (by omega), h2]
    · rw [if_neg h2]
  · rw [if_neg h, if_neg h]
theorem cmp_f (a b : S46) : kinds_Compare.f 10 a.f0 a.f1 a.f2 b.f0 b.f1 b.f2 = some (cmpV a b) := by
  unfold cmpV
  have h : ∃ r, kinds_Compare.f 10 a.f0 a.f1 a.f2 b.f0 b.f1 b.f2 = some r := by
    have hj : ∀ x5, ∃ r, kinds_Compare.j0 10 x5 a.f0 a.f1 a.f2 b.f0 b.f1 b.f2 = some r := by
      intro x5
      rw [kinds_Compare.j0]
      by_cases h1 : x5 = true
      · rw [if_pos h1]; exact ⟨_, rfl⟩
      · rw [if_neg h1]
        by_cases h2 : a.f0 = true
        · rw [if_pos h2]; exact ⟨_, rfl⟩
        · rw [if_neg h2]
          by_cases h3 : b.f0 = true
          · rw [if_pos h3]; exact ⟨_, rfl⟩
          · rw [if_neg h3]
            have h4 : ∃ t, cmp_Compare_int64.f a.f1 b.f1 = some t := by
              unfold cmp_Compare_int64.f cmp_isNaN_int64.f
              simp only [Option.bind_some]
              repeat' split
              all_goals exact ⟨_, rfl⟩
            obtain ⟨t, ht⟩ := h4
            rw [ht]
            unfold cmp_Compare_string.f
            simp only [Option.bind_some]
            rw [or_f9]
            exact ⟨_, rfl⟩
    unfold kinds_Compare.f
    split
    · exact hj _
    · exact hj _
  obtain ⟨r, hr⟩ := h
  rw [hr]
  rfl
theorem outP_mono (l : List Nd) (i : Nat) : ∀ c, c ≤ l.length → outP l (i + 1) c ≤ outP l i c
  | 0, _ => Nat.le_refl _
  | c + 1, hc => by
    have ih := outP_mono l i c (by omega)
    have h1 := outP_le l (i + 1) c
    unfold outP
    rw [getD_nd l c (by omega)]
    by_cases h : i + 1 < l[c].h
    · rw [if_pos h, if_pos (by omega)]; exact Nat.le_refl _
    · rw [if_neg h]
      by_cases h2 : i < l[c].h
      · rw [if_pos h2]; omega
      · rw [if_neg h2]; exact ih
theorem outP_ge (l : List Nd) (i q : Nat) : ∀ c, c ≤ l.length → (hq : q < l.length) → q < c → i < l[q].h → q + 1 ≤ outP l i c
  | 0, _, _, h, _ => absurd h (by omega)
  | c + 1, hc, hq, h, hi => by
    unfold outP
    rw [getD_nd l c (by omega)]
    by_cases h2 : i < l[c].h
    · rw [if_pos h2]; omega
    · rw [if_neg h2]
      have : q ≠ c := fun e => by subst e; exact h2 hi
      exact outP_ge l i q c (by omega) hq (by omega) hi
set_option maxHeartbeats 16000000 in
set_option maxRecDepth 100000 in
theorem path.calls (w0 w : World) (lb : Nat) (l : List Nd) (seed cnt bytes : Int) (k : S46) (c : Nat) (hS : Sk w0 w lb l seed cnt bytes) (hc : c ≤ l.length) (hk : ∀ q (hq : q < l.length), (cmpV (keyOf l[q].d) k < 0 ↔ q < c)) :
    Calls Tryz.prog 62 #[.pointer (some ⟨lb, 0, none⟩), .agg #[.bool k.f0, .int .i64 k.f1, .string k.f2]] w fun e w' => e = .returned (.agg (outA lb l c 0)) ∧ Below w.heap.size w w' := by
  have hu := Tryz.underlying105
  have hu2 := Tryz.underlying107
  have hu3 := Tryz.underlying46
  have hu4 := Tryz.underlying26
  have hu5 := Tryz.underlying103
  have HS := Aside0.mk hS; have HK0 := Aside0.mk hk; have HC := Aside0.mk hc
  clear hS hk hc
  go_enter Tryz.func62, Tryz.ntmps62
  have b1 := below_alloc (Below.refl _ w) (.cells #[.bool k.f0, .int .i64 k.f1, .string k.f2] 46)
  have k1 := blk_new w (.cells #[.bool k.f0, .int .i64 k.f1, .string k.f2] 46)
  have s1 : (w.alloc (.cells #[.bool k.f0, .int .i64 k.f1, .string k.f2] 46)).heap.size = w.heap.size + 1 := by simp
  go_upto_block 0 with fail
  generalize w.alloc (.cells #[.bool k.f0, .int .i64 k.f1, .string k.f2] 46) = w1 at *
  have b2 := below_alloc (Below.refl _ w1) (.cells #[.pointer none, .pointer none, .pointer none, .pointer none, .pointer none, .pointer none, .pointer none, .pointer none] 103)
  have k2 := blk_new w1 (.cells #[.pointer none, .pointer none, .pointer none, .pointer none, .pointer none, .pointer none, .pointer none, .pointer none] 103)
  have s2 : (w1.alloc (.cells #[.pointer none, .pointer none, .pointer none, .pointer none, .pointer none, .pointer none, .pointer none, .pointer none] 103)).heap.size = w1.heap.size + 1 := by simp
  generalize w1.alloc (.cells #[.pointer none, .pointer none, .pointer none, .pointer none, .pointer none, .pointer none, .pointer none, .pointer none] 103) = w2 at *
  have b3 := below_alloc (Below.refl _ w2) (.cells #[.pointer none, .pointer none, .pointer none, .pointer none, .pointer none, .pointer none, .pointer none, .pointer none] 103)
  have k3 := blk_new w2 (.cells #[.pointer none, .pointer none, .pointer none, .pointer none, .pointer none, .pointer none, .pointer none, .pointer none] 103)
  generalize w2.alloc (.cells #[.pointer none, .pointer none, .pointer none, .pointer none, .pointer none, .pointer none, .pointer none, .pointer none] 103) = w3 at *
  have hl1 : w1.heap.size = w.heap.size + 1 := s1
  have hl2 : w2.heap.size = w.heap.size + 1 + 1 := by rw [s2, s1]
  have HB3 : Aside0 (Below w.heap.size w w3) := ⟨b1.trans ((b2.mono b1.size).trans (b3.mono (Nat.le_trans b1.size b2.size)) |> fun h => h)⟩
  have HK3 : Aside0 (w3.heap[w.heap.size]? = some (.cells #[.bool k.f0, .int .i64 k.f1, .string k.f2] 46 (0, 0))) := ⟨(b3.block _ (by omega)).trans ((b2.block _ (by omega)).trans k1)⟩
  have H43 : Aside0 (w3.heap[w.heap.size + 1]? = some (.cells #[.pointer none, .pointer none, .pointer none, .pointer none, .pointer none, .pointer none, .pointer none, .pointer none] 103 (0, 0))) := ⟨by rw [← hl1]; exact (b3.block _ (by omega)).trans k2⟩
  have H53 : Aside0 (w3.heap[w.heap.size + 1 + 1]? = some (.cells (outA lb l c 8) 103 (0, 0))) := ⟨by rw [← hl2]; exact k3⟩
  clear b1 k1 s1 b2 k2 s2 b3 k3 hl1 hl2
  have h8 : outP l 8 c = 0 := outP_eq l 8 0 c HC.out (by omega) (.inl rfl) (fun q hq _ _ => (HS.out.chain.at q hq).2.2.2.1)
  have HA8 : Aside0 (atB lb l (outP l 8 c) = lb) := ⟨by rw [h8]; rfl⟩
  clear h8
  go_cut [] (fun wd => Aside0 (Below w.heap.size w wd) ∧ Aside0 (wd.heap[w.heap.size + 1]? = some (.cells #[.pointer none, .pointer none, .pointer none, .pointer none, .pointer none, .pointer none, .pointer none, .pointer none] 103 (0, 0))) ∧ Aside0 (wd.heap[w.heap.size + 1 + 1]? = some (.cells (outA lb l c 0) 103 (0, 0))))
  case first =>
    go_wp2_with fail
    go_loopg [6, 7] 9 (fun gg s6 s7 wr => ∃ (i : Nat), i ≤ 8 ∧ i ≤ gg ∧ s6 = .pointer (some ⟨atB lb l (outP l i c), 0, none⟩) ∧ s7 = .int .i64 ((i : Int) - 1) ∧ Aside0 (Below w.heap.size w wr) ∧ Aside0 (wr.heap[w.heap.size]? = some (.cells #[.bool k.f0, .int .i64 k.f1, .string k.f2] 46 (0, 0))) ∧ Aside0 (wr.heap[w.heap.size + 1]? = some (.cells #[.pointer none, .pointer none, .pointer none, .pointer none, .pointer none, .pointer none, .pointer none, .pointer none] 103 (0, 0))) ∧ Aside0 (wr.heap[w.heap.size + 1 + 1]? = some (.cells (outA lb l c i) 103 (0, 0))))
    case atStart => exact ⟨8, by omega, by omega, by rw [HA8.out], rfl, HB3, HK3, H43, H53⟩
    case round =>
      clear HB3 HK3 H43 H53 HA8
      obtain ⟨i, hi, hgg, rfl, rfl, HB, HK, H4, H5⟩ := hrel
      cases i with
      | zero =>
        have e1 : ((0 : Nat) : Int) - 1 = -1 := rfl
        rw [e1]
        clear hi hgg e1
        go_wp2_with fail
        go_meet
        case rel => exact ⟨HB, H4, H5⟩
      | succ m =>
        have e1 : ((m + 1 : Nat) : Int) - 1 = (m : Int) := by omega
        rw [e1]
        clear e1
        have g1 : decide ((0 : Int) ≤ (m : Int)) = true := decide_eq_true (by omega)
        have g2 : ((m : Int) ≥ 0) = True := eq_true (by omega)
        have g3 : decide ((m : Int) ≥ 0) = true := decide_eq_true (by omega)
        have g4 : ((0 : Int) ≤ (m : Int)) = True := eq_true (by omega)
        have g5 : ((m : Int) < 8) = True := eq_true (by omega)
        have g6 : IntKind.i64.wrap ((m : Int) - 1) = (m : Int) - 1 := IntWalk.i64_in _ (by omega)
        have HM := Aside0.mk (And.intro hi hgg)
        clear hi hgg
        go_upto_block 2 with fail
        go_cut [6] (fun s6 wc => s6 = .pointer (some ⟨atB lb l (outP l m c), 0, none⟩) ∧ Aside0 (Below w.heap.size w wc) ∧ Aside0 (wc.heap[w.heap.size]? = some (.cells #[.bool k.f0, .int .i64 k.f1, .string k.f2] 46 (0, 0))) ∧ Aside0 (wc.heap[w.heap.size + 1]? = some (.cells #[.pointer none, .pointer none, .pointer none, .pointer none, .pointer none, .pointer none, .pointer none, .pointer none] 103 (0, 0))) ∧ Aside0 (wc.heap[w.heap.size + 1 + 1]? = some (.cells (outA lb l c (m + 1)) 103 (0, 0))))
        case first =>
          go_wp2_with fail
          go_loopg [6] c (fun gg s6 wl => ∃ (p : Nat), p ≤ outP l m c ∧ outP l m c - p ≤ gg ∧ (p = 0 ∨ ∃ h2 : p - 1 < l.length, m < l[p - 1].h) ∧ s6 = .pointer (some ⟨atB lb l p, 0, none⟩) ∧ Aside0 (Below w.heap.size w wl) ∧ Aside0 (wl.heap[w.heap.size]? = some (.cells #[.bool k.f0, .int .i64 k.f1, .string k.f2] 46 (0, 0))) ∧ Aside0 (wl.heap[w.heap.size + 1]? = some (.cells #[.pointer none, .pointer none, .pointer none, .pointer none, .pointer none, .pointer none, .pointer none, .pointer none] 103 (0, 0))) ∧ Aside0 (wl.heap[w.heap.size + 1 + 1]? = some (.cells (outA lb l c (m + 1)) 103 (0, 0))))
          case atStart =>
            refine ⟨outP l (m + 1) c, outP_mono l m c HC.out, by have := outP_le l m c; omega, ?_, rfl, HB, HK, H4, H5⟩
            rcases outP_h l (m + 1) c HC.out with h | ⟨h2, h3⟩
            · exact .inl h
            · exact .inr ⟨h2, by omega⟩
          case round =>
            clear HB HK H4 H5
            rename World => wo
            obtain ⟨p, hp, hgg, hh, rfl, HB, HK, H4, H5⟩ := hrel
            have hcl := HC.out
            have hple := outP_le l m c
            have hm8 : m < 8 := by have := HM.out; omega
            have hsk := HS.out.below HB.out
            have hnx := hsk.next p m (by omega) hm8 hh
            rcases next_split m (l.drop p) with ⟨h1, h2⟩ | ⟨j, hj, h1, h2, h3⟩
            · have hpe : outP l m c = p := outP_eq l m p c hcl (by omega) hh (fun q hq h4 h5 => h2 _ (by
                have : l[q] = (l.drop p)[q - p]'(by rw [List.length_drop]; omega) := by rw [List.getElem_drop]; congr 1; omega
                rw [this]; exact List.getElem_mem _))
              rw [h1] at hnx
              have HPE := Aside0.mk hpe
              clear h1 h2 hp hgg hh hcl hple hm8 hsk hpe
              go_wp2_with fail
              go_quiet (fail)
              go_wp2_with fail
              go_meet
              case rel => exact ⟨by rw [HPE.out], ⟨pw_below_drewN HB.out _⟩, ⟨HK.out⟩, ⟨H4.out⟩, ⟨H5.out⟩⟩
            · have hjl : p + j < l.length := by rw [List.length_drop] at hj; omega
              have hge : (l.drop p)[j] = l[p + j] := by rw [List.getElem_drop]
              rw [hge] at h1 h3
              obtain ⟨⟨V, hV, hR⟩, -, -, -, hlen⟩ := hsk.chain.at (p + j) hjl
              obtain ⟨A, cap, rfl, hcap, hC⟩ := Kd.R_reads hR
              obtain ⟨ad, rfl, hx0, hx1, hx2⟩ := at_T46 hC 0 (by omega) (by omega)
              have hkey : rd_T46 l[p + j].d.f1 0 = keyOf l[p + j].d := rfl
              rw [hkey] at hx0 hx1 hx2
              have e00 : Int.toNat 0 * 3 = 0 := rfl
              rw [e00, Addr.add_zero'] at hx0 hx1 hx2
              have hv1 : wo.cell? ⟨l[p + j].b, 1, none⟩ = some (.slice (some ad) l[p + j].d.f1.length cap) := cells_at2 hV 1 _ (by unfold nodeCells; rfl)
              rw [h3] at hnx
              have y0 : wo.cell? ⟨w.heap.size, 0, none⟩ = some (.bool k.f0) := (blk_cell HK.out 0).trans rfl
              have y1 : wo.cell? ⟨w.heap.size, 1, none⟩ = some (.int .i64 k.f1) := (blk_cell HK.out 1).trans rfl
              have y2 : wo.cell? ⟨w.heap.size, 2, none⟩ = some (.string k.f2) := (blk_cell HK.out 2).trans rfl
              have hcm := cmp_f (keyOf l[p + j].d) k
              have hki := HK0.out (p + j) hjl
              have hl0 : ((0 : Int) < (l[p + j].d.f1.length : Int)) = True := eq_true (by omega)
              have hl1 : (0 < l[p + j].d.f1.length) = True := eq_true hlen
              have hl2 : decide (0 < l[p + j].d.f1.length) = true := decide_eq_true hlen
              have HL0 := Aside0.mk (And.intro (Array.getElem?_eq_some_iff.1 HK.out).1 (And.intro (Array.getElem?_eq_some_iff.1 H4.out).1 (Array.getElem?_eq_some_iff.1 H5.out).1))
              have hat : atB lb l (p + j + 1) = l[p + j].b := by unfold atB; rw [if_neg (by omega)]; simp [List.getD, hjl]
              have hnext : ¬ (cmpV (keyOf l[p + j].d) k < 0) → outP l m c = p := fun hn => outP_eq l m p c hcl (by omega) hh (fun q hq h4 h5 => by
                have hcq : ¬ p + j < c := fun hx => hn (hki.2 hx)
                have := h2 (q - p) (by rw [List.length_drop]; omega) (by omega)
                rw [List.getElem_drop] at this
                have e : l[p + (q - p)]'(by omega) = l[q] := by congr 1; omega
                rwa [e] at this)
              have hgo : cmpV (keyOf l[p + j].d) k < 0 → p + j + 1 ≤ outP l m c := fun hn => outP_ge l m (p + j) c hcl hjl (hki.1 hn) h1
              have HH2 : Aside0 (∃ h2 : p + j + 1 - 1 < l.length, m < l[p + j + 1 - 1].h) := ⟨⟨by omega, by simpa using h1⟩⟩
              have HNX : Aside0 (wo.cell? ⟨atB lb l p, 2 + m, none⟩ = some (.pointer (some ⟨l[p + j].b, 0, none⟩))) := ⟨hnx⟩
              have HCM := Aside0.mk hcm; have HAT := Aside0.mk hat; have HNE := Aside0.mk hnext; have HGO := Aside0.mk hgo; have HPP := Aside0.mk (And.intro hp hgg)
              clear hcm hat hnext hgo hki h1 h2 h3 hge hC hR hV hsk hcl hple hm8 hh hp hgg hcap hlen hj
              generalize l[p + j].b = nb at *
              generalize cmpV (keyOf l[p + j].d) k = cv at *
              generalize keyOf l[p + j].d = kv at *
              generalize l[p + j].d.f1.length = nl at *
              by_cases hlt : cv < 0
              · have hd : decide (cv < 0) = true := decide_eq_true hlt
                have HG := Aside0.mk (HGO.out hlt)
                clear hlt HGO HNE
                go_wp2_with fail
                go_region_with (first | (go_at_call 91; refine (kinds_Compare.calls 10 kv.f0 kv.f1 kv.f2 k.f0 k.f1 k.f2 cv _ HCM.out).mono ?_; rintro e wv ⟨rfl, hb⟩; (have HBv := Aside0.mk ((below_drew HB.out).trans (hb.mono (below_drew HB.out).size))); (have HKv : Aside0 (wv.heap[w.heap.size]? = some (.cells #[.bool k.f0, .int .i64 k.f1, .string k.f2] 46 (0, 0))) := ⟨(hb.block _ HL0.out.1).trans HK.out⟩); (have H4v : Aside0 (wv.heap[w.heap.size + 1]? = some (.cells #[.pointer none, .pointer none, .pointer none, .pointer none, .pointer none, .pointer none, .pointer none, .pointer none] 103 (0, 0))) := ⟨(hb.block _ HL0.out.2.1).trans H4.out⟩); (have H5v : Aside0 (wv.heap[w.heap.size + 1 + 1]? = some (.cells (outA lb l c (m + 1)) 103 (0, 0))) := ⟨(hb.block _ HL0.out.2.2).trans H5.out⟩); (have hnv : wv.cell? ⟨atB lb l p, 2 + m, none⟩ = some (.pointer (some ⟨nb, 0, none⟩)) := (hb.cell (World.block_lt_of_cell? wo.drew _ HNX.out)).trans HNX.out); clear hb))
                all_goals (
                  go_wp2_with fail
                  go_roundg (outP l m c - (p + j + 1))
                  case measure => have := HPP.out; have := HG.out; omega
                  case rel => exact ⟨p + j + 1, HG.out, Nat.le_refl _, .inr HH2.out, by rw [HAT.out], HBv, HKv, H4v, H5v⟩)
              · have hd : decide (cv < 0) = false := decide_eq_false hlt
                have HG := Aside0.mk (HNE.out hlt)
                clear hlt HGO HNE
                go_wp2_with fail
                go_region_with (first | (go_at_call 91; refine (kinds_Compare.calls 10 kv.f0 kv.f1 kv.f2 k.f0 k.f1 k.f2 cv _ HCM.out).mono ?_; rintro e wv ⟨rfl, hb⟩; (have HBv := Aside0.mk ((below_drew HB.out).trans (hb.mono (below_drew HB.out).size))); (have HKv : Aside0 (wv.heap[w.heap.size]? = some (.cells #[.bool k.f0, .int .i64 k.f1, .string k.f2] 46 (0, 0))) := ⟨(hb.block _ HL0.out.1).trans HK.out⟩); (have H4v : Aside0 (wv.heap[w.heap.size + 1]? = some (.cells #[.pointer none, .pointer none, .pointer none, .pointer none, .pointer none, .pointer none, .pointer none, .pointer none] 103 (0, 0))) := ⟨(hb.block _ HL0.out.2.1).trans H4.out⟩); (have H5v : Aside0 (wv.heap[w.heap.size + 1 + 1]? = some (.cells (outA lb l c (m + 1)) 103 (0, 0))) := ⟨(hb.block _ HL0.out.2.2).trans H5.out⟩); (have hnv : wv.cell? ⟨atB lb l p, 2 + m, none⟩ = some (.pointer (some ⟨nb, 0, none⟩)) := (hb.cell (World.block_lt_of_cell? wo.drew _ HNX.out)).trans HNX.out); clear hb))
                all_goals (
                  go_wp2_with fail
                  go_meet
                  case rel => exact ⟨by rw [HG.out], HBv, HKv, H4v, H5v⟩)
        case rest =>
          obtain ⟨rfl, HB2, HK2, H42, H52⟩ := hcut
          clear HB HK H4 H5
          have z5 := blk_frozen H52.out m
          have y5 : ∃ v, wc.cell? ⟨w.heap.size + 1 + 1, m, none⟩ = some v := ⟨.pointer none, cells_at2 H52.out m _ (by unfold outA; simp [show m < 8 by have := HM.out; omega])⟩
          obtain ⟨v5, y5⟩ := y5
          go_wp2_with fail
          have hB := HB2.out; have hK := HK2.out; have h4 := H42.out; have h5 := H52.out
          have HBz : Aside0 (Below w.heap.size w (wc.setCell ⟨w.heap.size + 1 + 1, m, none⟩ (.pointer (some ⟨atB lb l (outP l m c), 0, none⟩)))) := ⟨Below.setCell hB (show w.heap.size ≤ w.heap.size + 1 + 1 by omega) _⟩
          have HKz := Aside0.mk (blk_far (p := ⟨w.heap.size + 1 + 1, m, none⟩) hK (show w.heap.size ≠ w.heap.size + 1 + 1 by omega) (.pointer (some ⟨atB lb l (outP l m c), 0, none⟩)))
          have H4z := Aside0.mk (blk_far (p := ⟨w.heap.size + 1 + 1, m, none⟩) h4 (show w.heap.size + 1 ≠ w.heap.size + 1 + 1 by omega) (.pointer (some ⟨atB lb l (outP l m c), 0, none⟩)))
          have h5z := blk_set h5 m (.pointer (some ⟨atB lb l (outP l m c), 0, none⟩))
          rw [outA_set lb l c m (by have := HM.out; omega)] at h5z
          have H5z := Aside0.mk h5z
          clear hB hK h4 h5 h5z y5 z5
          go_roundg m
          case measure => have := HM.out; omega
          case rel => exact ⟨m, by have := HM.out; omega, Nat.le_refl _, rfl, rfl, HBz, HKz, H4z, H5z⟩
  case rest =>
    obtain ⟨HB, H4, H5⟩ := hcut
    have e0 : outA lb l c 0 = #[.pointer (some ⟨atB lb l (outP l 0 c), 0, none⟩), .pointer (some ⟨atB lb l (outP l 1 c), 0, none⟩), .pointer (some ⟨atB lb l (outP l 2 c), 0, none⟩), .pointer (some ⟨atB lb l (outP l 3 c), 0, none⟩), .pointer (some ⟨atB lb l (outP l 4 c), 0, none⟩), .pointer (some ⟨atB lb l (outP l 5 c), 0, none⟩), .pointer (some ⟨atB lb l (outP l 6 c), 0, none⟩), .pointer (some ⟨atB lb l (outP l 7 c), 0, none⟩)] := rfl
    have h5 := H5.out
    rw [e0] at h5
    have h4 := H4.out
    have a0 := (blk_cell h5 0).trans rfl; have a1 := (blk_cell h5 1).trans rfl; have a2 := (blk_cell h5 2).trans rfl; have a3 := (blk_cell h5 3).trans rfl; have a4 := (blk_cell h5 4).trans rfl; have a5 := (blk_cell h5 5).trans rfl; have a6 := (blk_cell h5 6).trans rfl; have a7 := (blk_cell h5 7).trans rfl
    have q0 := (blk_cell h4 0).trans rfl; have q1 := (blk_cell h4 1).trans rfl; have q2 := (blk_cell h4 2).trans rfl; have q3 := (blk_cell h4 3).trans rfl; have q4 := (blk_cell h4 4).trans rfl; have q5 := (blk_cell h4 5).trans rfl; have q6 := (blk_cell h4 6).trans rfl; have q7 := (blk_cell h4 7).trans rfl
    have z0 := blk_frozen h4 0; have z1 := blk_frozen h4 1; have z2 := blk_frozen h4 2; have z3 := blk_frozen h4 3; have z4 := blk_frozen h4 4; have z5 := blk_frozen h4 5; have z6 := blk_frozen h4 6; have z7 := blk_frozen h4 7
    have HE0 := Aside0.mk e0
    clear h4 h5 e0 H4 H5
    go_wp2_with fail
    refine bodyPost_ret (v := .agg (outA lb l c 0)) (by rw [HE0.out]; simp [results, Tryz.results62, go_sem, q0, q1, q2, q3, q4, q5, q6, q7]) rfl ⟨rfl, ?_⟩
    iterate 8 refine Below.setCell ?_ (show w.heap.size ≤ w.heap.size + 1 by omega) _
    exact HB.out
end Go.Proofs.YtojcbknclfamhaaGreatDoor.A
namespace Go.Proofs.YtojcbknclfamhaaGreatDoor.A
open Go.RowKit Go.Proofs.YtojcbknclfamhaaGreatDoorW.PrintWords Go.Proofs.YtojcbknclfamhaaGreatDoorW.PrintLast Go.Proofs.YtojcbknclfamhaaGreatDoorW.PrintMore
set_option linter.unusedVariables false
set_option linter.unusedSimpArgs false
theorem outP_zero {w0 w : World} {lb : Nat} {l : List Nd} {seed cnt bytes : Int} (h : Sk w0 w lb l seed cnt bytes) (c : Nat) (hc : c ≤ l.length) : outP l 0 c = c := by
  refine outP_eq l 0 c c hc (Nat.le_refl _) ?_ (fun q hq h1 h2 => absurd h2 (by omega))
  by_cases h0 : c = 0
  · exact .inl h0
  · exact .inr ⟨by omega, by have := h.pos (c - 1) (by omega); omega⟩
def foundB (l : List Nd) (c : Nat) (k : S46) : Option Addr := match l[c]? with
  | some n => if cmpV (keyOf n.d) k = 0 then some ⟨n.b, 0, none⟩ else none
  | none => none
theorem next_zero {w0 w : World} {lb : Nat} {l : List Nd} {seed cnt bytes : Int} (h : Sk w0 w lb l seed cnt bytes) (c : Nat) : nextAt 0 (l.drop c) = (l[c]?).map (fun n => ⟨n.b, 0, none⟩) := by
  by_cases hc : c < l.length
  · rw [List.getElem?_eq_getElem hc, List.drop_eq_getElem_cons hc]
    unfold nextAt
    have := h.pos c hc
    rw [List.find?_cons_of_pos (by simp; omega)]
    first | done | rfl
  · rw [List.getElem?_eq_none (by omega), List.drop_of_length_le (by omega)]
    rfl
theorem idx_zero (p0 p1 p2 p3 p4 p5 p6 p7 : Option Addr) (w : World) : (Instr.index 103 (.agg #[.pointer p0, .pointer p1, .pointer p2, .pointer p3, .pointer p4, .pointer p5, .pointer p6, .pointer p7]) (.int .i64 0)).run Tryz.prog w = .ok (.pointer p0) w := by kernel_rfl
attribute [local go_sem] idx_zero
set_option maxHeartbeats 16000000 in
set_option maxRecDepth 100000 in
theorem find.calls (w0 w : World) (lb : Nat) (l : List Nd) (seed cnt bytes : Int) (k : S46) (c : Nat) (hS : Sk w0 w lb l seed cnt bytes) (hc : c ≤ l.length) (hk : ∀ q (hq : q < l.length), (cmpV (keyOf l[q].d) k < 0 ↔ q < c)) :
    Calls Tryz.prog 61 #[.pointer (some ⟨lb, 0, none⟩), .agg #[.bool k.f0, .int .i64 k.f1, .string k.f2]] w fun e w' => e = .returned (.pointer (foundB l c k)) ∧ Below w.heap.size w w' := by
  have hu := Tryz.underlying105
  have hu2 := Tryz.underlying107
  have hu3 := Tryz.underlying46
  have hu4 := Tryz.underlying26
  have hu5 := Tryz.underlying103
  have b1 := below_alloc (Below.refl _ w) (.cells #[.bool k.f0, .int .i64 k.f1, .string k.f2] 46)
  have k1 := blk_new w (.cells #[.bool k.f0, .int .i64 k.f1, .string k.f2] 46)
  have HB1 := Aside0.mk b1; have HK1 := Aside0.mk k1
  have HS := Aside0.mk hS; have HK0 := Aside0.mk hk; have HC := Aside0.mk hc
  have y0 : (w.alloc (.cells #[.bool k.f0, .int .i64 k.f1, .string k.f2] 46)).cell? ⟨w.heap.size, 0, none⟩ = some (.bool k.f0) := (blk_cell k1 0).trans rfl
  have y1 : (w.alloc (.cells #[.bool k.f0, .int .i64 k.f1, .string k.f2] 46)).cell? ⟨w.heap.size, 1, none⟩ = some (.int .i64 k.f1) := (blk_cell k1 1).trans rfl
  have y2 : (w.alloc (.cells #[.bool k.f0, .int .i64 k.f1, .string k.f2] 46)).cell? ⟨w.heap.size, 2, none⟩ = some (.string k.f2) := (blk_cell k1 2).trans rfl
  obtain ⟨fb, hfb⟩ : ∃ fb, fb = foundB l c k := ⟨_, rfl⟩
  rw [← hfb]
  unfold foundB at hfb
  clear hS hk hc b1 k1
  go_enter Tryz.func61, Tryz.ntmps61
  go_wp2_with fail
  generalize w.alloc (.cells #[.bool k.f0, .int .i64 k.f1, .string k.f2] 46) = w1 at *
  refine (path.calls w0 w1 lb l seed cnt bytes k c (HS.out.below HB1.out) HC.out HK0.out).mono ?_
  rintro e w2 ⟨rfl, hb2⟩
  have HB2 := Aside0.mk (HB1.out.trans (hb2.mono HB1.out.size))
  have HK2 := Aside0.mk ((hb2.block _ (Array.getElem?_eq_some_iff.1 HK1.out).1).trans HK1.out)
  have e0 : outA lb l c 0 = #[.pointer (some ⟨atB lb l (outP l 0 c), 0, none⟩), .pointer (some ⟨atB lb l (outP l 1 c), 0, none⟩), .pointer (some ⟨atB lb l (outP l 2 c), 0, none⟩), .pointer (some ⟨atB lb l (outP l 3 c), 0, none⟩), .pointer (some ⟨atB lb l (outP l 4 c), 0, none⟩), .pointer (some ⟨atB lb l (outP l 5 c), 0, none⟩), .pointer (some ⟨atB lb l (outP l 6 c), 0, none⟩), .pointer (some ⟨atB lb l (outP l 7 c), 0, none⟩)] := rfl
  have hsk := HS.out.below HB2.out
  have hz := outP_zero hsk c HC.out
  rw [e0, hz]
  have hnx := hsk.next c 0 HC.out (by omega) (by
    by_cases h0 : c = 0
    · exact .inl h0
    · exact .inr ⟨by have := HC.out; omega, by have := hsk.pos (c - 1) (by have := HC.out; omega); omega⟩)
  rw [next_zero hsk c] at hnx
  clear hb2 y0 y1 y2 e0 hz HK1 HB1
  have y0 : w2.cell? ⟨w.heap.size, 0, none⟩ = some (.bool k.f0) := (blk_cell HK2.out 0).trans rfl
  have y1 : w2.cell? ⟨w.heap.size, 1, none⟩ = some (.int .i64 k.f1) := (blk_cell HK2.out 1).trans rfl
  have y2 : w2.cell? ⟨w.heap.size, 2, none⟩ = some (.string k.f2) := (blk_cell HK2.out 2).trans rfl
  by_cases hcl : c < l.length
  · rw [List.getElem?_eq_getElem hcl] at hnx hfb
    simp only [Option.map_some] at hnx hfb
    obtain ⟨⟨V, hV, hR⟩, -, -, -, hlen⟩ := hsk.chain.at c hcl
    obtain ⟨A, cap, rfl, hcap, hC⟩ := Kd.R_reads hR
    obtain ⟨ad, rfl, hx0, hx1, hx2⟩ := at_T46 hC 0 (by omega) (by omega)
    have hkey : rd_T46 l[c].d.f1 0 = keyOf l[c].d := rfl
    rw [hkey] at hx0 hx1 hx2
    have e00 : Int.toNat 0 * 3 = 0 := rfl
    rw [e00, Addr.add_zero'] at hx0 hx1 hx2
    have hv1 : w2.cell? ⟨l[c].b, 1, none⟩ = some (.slice (some ad) l[c].d.f1.length cap) := cells_at2 hV 1 _ (by unfold nodeCells; rfl)
    have hl0 : ((0 : Int) < (l[c].d.f1.length : Int)) = True := eq_true (by omega)
    have hl1 : (0 < l[c].d.f1.length) = True := eq_true hlen
    have hl2 : decide (0 < l[c].d.f1.length) = true := decide_eq_true hlen
    have HCM := Aside0.mk (cmp_f (keyOf l[c].d) k)
    clear hV hR hC hlen hcap hsk
    generalize l[c].b = nb at *
    generalize cmpV (keyOf l[c].d) k = cv at *
    generalize keyOf l[c].d = kv at *
    generalize l[c].d.f1.length = nl at *
    by_cases hcv : cv = 0
    · rw [if_pos hcv] at hfb
      have HFB := Aside0.mk hfb
      clear hfb
      have g1 : (cv == 0) = true := beq_iff_eq.mpr hcv
      have g2 : (cv != 0) = false := bne_eq_false_iff_eq.mpr hcv
      clear hcv
      go_wp2_with fail
      go_region_with (first | (go_at_call 91; refine (kinds_Compare.calls 10 kv.f0 kv.f1 kv.f2 k.f0 k.f1 k.f2 cv _ HCM.out).mono ?_; rintro e wv ⟨rfl, hb⟩; (have HBv := Aside0.mk ((below_drew HB2.out).trans (hb.mono (below_drew HB2.out).size))); clear hb))
      all_goals (
        go_wp2_with fail
        go_ret
        exact ⟨by rw [HFB.out]; rfl, HBv.out⟩)
    · rw [if_neg hcv] at hfb
      have HFB := Aside0.mk hfb
      clear hfb
      have g1 : (cv == 0) = false := beq_eq_false_iff_ne.mpr hcv
      have g2 : (cv != 0) = true := bne_iff_ne.mpr hcv
      clear hcv
      go_wp2_with fail
      go_region_with (first | (go_at_call 91; refine (kinds_Compare.calls 10 kv.f0 kv.f1 kv.f2 k.f0 k.f1 k.f2 cv _ HCM.out).mono ?_; rintro e wv ⟨rfl, hb⟩; (have HBv := Aside0.mk ((below_drew HB2.out).trans (hb.mono (below_drew HB2.out).size))); clear hb))
      all_goals (
        go_wp2_with fail
        go_ret
        exact ⟨by rw [HFB.out]; rfl, HBv.out⟩)
  · rw [List.getElem?_eq_none (by omega)] at hnx hfb
    simp only [Option.map_none] at hnx hfb
    have HFB := Aside0.mk hfb
    clear hcl hsk hfb
    go_wp2_with fail
    go_quiet (fail)
    go_wp2_with fail
    go_ret
    exact ⟨by rw [HFB.out]; rfl, pw_below_drewN HB2.out _⟩
end Go.Proofs.YtojcbknclfamhaaGreatDoor.A
namespace Go.Proofs.YtojcbknclfamhaaGreatDoor.A
open Go.RowKit Go.Proofs.YtojcbknclfamhaaGreatDoorW.PrintWords Go.Proofs.YtojcbknclfamhaaGreatDoorW.PrintLast Go.Proofs.YtojcbknclfamhaaGreatDoorW.PrintMore
set_option linter.unusedVariables false
set_option linter.unusedSimpArgs false
theorem head_seed (l : List Nd) (seed cnt bytes s' : Int) : (headCells l seed cnt bytes).setIfInBounds 10 (.int .u64 s') = headCells l s' cnt bytes := by
  unfold headCells ptrs
  rfl
theorem Keep2.chain {W W1 : World} {base lb : Nat} (hk : Keep2 W W1 lb lb) {seed cnt bytes : Int} {l0 : List Nd} (hb : W.heap[lb]? = some (.cells (headCells l0 seed cnt bytes) 107 (0, 0))) : ∀ {l : List Nd}, Chain W base l → Chain W1 base l
  | [], _ => trivial
  | n :: rest, ⟨⟨V, h1, h2⟩, h3, h4, h5, h6, h7⟩ => by
    have hne : n.b ≠ lb := fun e => by rw [e, hb] at h1; simp at h1
    have n1 := Kd.R_ne h2 hb (by decide)
    refine ⟨⟨V, (hk.2 _ (Array.getElem?_eq_some_iff.1 h1).1 hne hne).trans h1, ?_⟩, h3, h4, h5, h6, Keep2.chain hk hb h7⟩
    refine Kd.R_mono (Kd.R_kept (S := fun k => k = lb) (Kd.R_tight rfl h2) ⟨hk.1, fun i hi hs => hk.2 i hi hs hs⟩ ?_) (fun _ _ => trivial)
    rintro k ho rfl
    exact n1 ho
set_option maxHeartbeats 16000000 in
set_option maxRecDepth 100000 in
theorem levels.calls (w0 w : World) (lb : Nat) (l : List Nd) (seed cnt bytes : Int) (hS : Sk w0 w lb l seed cnt bytes) (hB : Below w0.heap.size w0 w) :
    Calls Tryz.prog 63 #[.pointer (some ⟨lb, 0, none⟩)] w fun e w' => ∃ (n : Nat) (seed' : Int), 1 ≤ n ∧ n ≤ 8 ∧ e = .returned (.int .i64 n) ∧ w'.heap[lb]? = some (.cells (headCells l seed' cnt bytes) 107 (0, 0)) ∧ Keep2 w w' lb lb ∧ Below w0.heap.size w0 w' := by
  have hu2 := Tryz.underlying107
  have hs := cells_at2 hS.blk 10 (.int .u64 seed) rfl
  have hz := blk_frozen hS.blk 10
  have HS := Aside0.mk hS; have HB := Aside0.mk hB
  clear hS hB
  go_enter Tryz.func63, Tryz.ntmps63
  go_wp2_with fail
  go_still_tail 12, (by kernel_rfl)
  change wpList _ _ _ _ _ w.drew
  go_wp2_with fail
  generalize Go.bits .xor .u64 seed (IntKind.u64.wrap (seed * 8192)) = s1
  have hb1 := blk_set (show w.heap[lb]? = _ from HS.out.blk) 10 (.int .u64 s1)
  rw [head_seed] at hb1
  have HK1 : Aside0 (Keep2 w (w.setCell ⟨lb, 10, none⟩ (.int .u64 s1)).drew lb lb) := ⟨(show Keep2 w w lb lb from Keep2.refl w lb lb).set 10 (.int .u64 s1)⟩
  have HB1 : Aside0 (Below w0.heap.size w0 (w.setCell ⟨lb, 10, none⟩ (.int .u64 s1)).drew) := ⟨below_drew (HB.out.setCell HS.out.old _)⟩
  have H1 : Aside0 ((w.setCell ⟨lb, 10, none⟩ (.int .u64 s1)).drew.heap[lb]? = some (.cells (headCells l s1 cnt bytes) 107 (0, 0))) := ⟨hb1⟩
  clear hb1 hs hz
  generalize (w.setCell ⟨lb, 10, none⟩ (.int .u64 s1)).drew = w1 at *
  have hs := cells_at2 H1.out 10 (.int .u64 s1) rfl
  have hz := blk_frozen H1.out 10
  go_still_tail 12, (by kernel_rfl)
  change wpList _ _ _ _ _ w1.drew
  go_wp2_with fail
  generalize Go.bits .xor .u64 s1 (s1 / 128) = s2
  have hb2 := blk_set (show w1.heap[lb]? = _ from H1.out) 10 (.int .u64 s2)
  rw [head_seed] at hb2
  have HK2 : Aside0 (Keep2 w (w1.setCell ⟨lb, 10, none⟩ (.int .u64 s2)).drew lb lb) := ⟨(show Keep2 w w1 lb lb from HK1.out).set 10 (.int .u64 s2)⟩
  have HB2 : Aside0 (Below w0.heap.size w0 (w1.setCell ⟨lb, 10, none⟩ (.int .u64 s2)).drew) := ⟨below_drew (HB1.out.setCell HS.out.old _)⟩
  have H2 : Aside0 ((w1.setCell ⟨lb, 10, none⟩ (.int .u64 s2)).drew.heap[lb]? = some (.cells (headCells l s2 cnt bytes) 107 (0, 0))) := ⟨hb2⟩
  clear hb2 hs hz
  generalize (w1.setCell ⟨lb, 10, none⟩ (.int .u64 s2)).drew = w2 at *
  have hs := cells_at2 H2.out 10 (.int .u64 s2) rfl
  have hz := blk_frozen H2.out 10
  go_still_tail 12, (by kernel_rfl)
  change wpList _ _ _ _ _ w2.drew
  go_upto_block 0 with (fail)
  generalize Go.bits .xor .u64 s2 (IntKind.u64.wrap (s2 * 131072)) = s3
  have hb3 := blk_set (show w2.heap[lb]? = _ from H2.out) 10 (.int .u64 s3)
  rw [head_seed] at hb3
  have HK3 : Aside0 (Keep2 w (w2.setCell ⟨lb, 10, none⟩ (.int .u64 s3)).drew lb lb) := ⟨(show Keep2 w w2 lb lb from HK2.out).set 10 (.int .u64 s3)⟩
  have HB3 : Aside0 (Below w0.heap.size w0 (w2.setCell ⟨lb, 10, none⟩ (.int .u64 s3)).drew) := ⟨below_drew (HB2.out.setCell HS.out.old _)⟩
  have H3 : Aside0 ((w2.setCell ⟨lb, 10, none⟩ (.int .u64 s3)).drew.heap[lb]? = some (.cells (headCells l s3 cnt bytes) 107 (0, 0))) := ⟨hb3⟩
  clear hb3 hs hz
  generalize (w2.setCell ⟨lb, 10, none⟩ (.int .u64 s3)).drew = w3 at *
  generalize s3 / 4294967296 = x0
  go_cut [3] (fun v3 wd => ∃ n : Nat, 1 ≤ n ∧ n ≤ 8 ∧ v3 = .int .i64 n ∧ wd = w3)
  case first =>
    go_wp2_with fail
    go_loopg [3, 4] 8 (fun gg v3 v4 wr => ∃ (n : Nat) (x : Int), 1 ≤ n ∧ n ≤ 8 ∧ 8 - n ≤ gg ∧ v3 = .int .i64 n ∧ v4 = .int .u64 x ∧ wr = w3)
    case atStart => exact ⟨1, x0, by omega, by omega, by omega, rfl, rfl, rfl⟩
    case round =>
      obtain ⟨n, x, h1, h8, hgg, rfl, rfl, rfl⟩ := hrel
      by_cases hlt : n < 8
      · have g1 : decide ((n : Int) < 8) = true := decide_eq_true (by omega)
        have g2 : decide (n < 8) = true := decide_eq_true hlt
        have g3 : IntKind.i64.wrap ((n : Int) + 1) = ((n + 1 : Nat) : Int) := by rw [IntWalk.i64_in _ (by omega)]; rfl
        have HN := Aside0.mk (And.intro h1 (And.intro hlt hgg))
        clear h1 h8 hgg hlt
        cases hb : (Go.bits .and .u64 x 3 == 0) with
        | true =>
          go_wp2_with fail
          go_roundg (8 - (n + 1))
          case measure => have := HN.out; omega
          case rel => exact ⟨n + 1, x / 4, by omega, by have := HN.out; omega, Nat.le_refl _, by first | rfl | (congr 1), rfl, rfl⟩
        | false =>
          go_wp2_with fail
          go_meet
          case rel => exact ⟨n, by have := HN.out; omega, by have := HN.out; omega, rfl, rfl⟩
      · have g1 : decide ((n : Int) < 8) = false := decide_eq_false (by omega)
        have g2 : decide (n < 8) = false := decide_eq_false hlt
        have HN := Aside0.mk (And.intro h1 h8)
        clear h1 h8 hgg hlt
        go_wp2_with fail
        go_meet
        case rel => exact ⟨n, HN.out.1, HN.out.2, rfl, rfl⟩
  case rest =>
    obtain ⟨n, hn1, hn8, rfl, rfl⟩ := hcut
    have HN := Aside0.mk (And.intro hn1 hn8)
    clear hn1 hn8
    go_wp2_with fail
    go_ret
    exact ⟨n, s3, HN.out.1, HN.out.2, rfl, H3.out, HK3.out, HB3.out⟩
end Go.Proofs.YtojcbknclfamhaaGreatDoor.A
namespace Go.Proofs.YtojcbknclfamhaaGreatDoor.A
open Go.RowKit Go.Proofs.YtojcbknclfamhaaGreatDoorW.PrintWords Go.Proofs.YtojcbknclfamhaaGreatDoorW.PrintLast Go.Proofs.YtojcbknclfamhaaGreatDoorW.PrintMore
set_option linter.unusedVariables false
set_option linter.unusedSimpArgs false
set_option maxHeartbeats 8000000 in
set_option maxRecDepth 100000 in
theorem new.calls (w0 w : World) (hB : Below w0.heap.size w0 w) :
    Calls Tryz.prog 27 #[.int .u64 0] w fun e w' => ∃ (lb : Nat) (seed : Int), e = .returned (.pointer (some ⟨lb, 0, none⟩)) ∧ Sk w0 w' lb [] seed 0 0 ∧ Below w.heap.size w w' := by
  have hu := Tryz.underlying105
  have hu2 := Tryz.underlying107
  have HB := Aside0.mk hB
  clear hB
  go_enter Tryz.func27, Tryz.ntmps27
  go_wp2_with fail
  generalize Go.bits .or .u64 0 1 = s
  have hk := blk_new w (.cells #[.bool false, .slice none 0 0, .pointer none, .pointer none, .pointer none, .pointer none, .pointer none, .pointer none, .pointer none, .pointer none, .int .u64 s, .int .i64 0, .int .i64 0] 107)
  have hb := below_alloc (Below.refl _ w) (.cells #[.bool false, .slice none 0 0, .pointer none, .pointer none, .pointer none, .pointer none, .pointer none, .pointer none, .pointer none, .pointer none, .int .u64 s, .int .i64 0, .int .i64 0] 107)
  go_ret
  exact ⟨w.heap.size, s, rfl, ⟨hk, HB.out.size, trivial, List.nodup_nil, fun j hj => absurd hj (by simp)⟩, hb⟩
end Go.Proofs.YtojcbknclfamhaaGreatDoor.A
