/- slices.Values at texts: a function value over one new block that holds the slice; it gives the slice's texts one by one. · slices.Sorted(slices.Values(l)) at texts: a new slice that holds the texts in order. · slices.Compact of a row of the call's own: texts. -/
import Derived.Test.YtimjafjicnlhfaaKrAx0
import Derived.Test.YtimjafjicnlhfaaKrShelf
import Derived.Shelf.SlIter.Nil
import Derived.Sort.OwnSorted
import Derived.Shelf.Slices.CompactS
namespace Go.Proofs.Ytimjafjicnlhfaa.A
open Go.RowKit Go.Proofs.YtimjafjicnlhfaaW.PrintWords Go.Proofs.YtimjafjicnlhfaaW.PrintLast Go.Proofs.YtimjafjicnlhfaaW.PrintMore
open Go.Shelf Go.Sort
set_option linter.unusedVariables false
set_option linter.unusedSimpArgs false
set_option maxRecDepth 100000 in
theorem values.calls (A : Option Addr) (n c : Nat) (w : World) :
    Calls Try.prog 22 #[.slice A n c] w fun e w' => e = .returned (.func (.func 50) #[] #[.pointer (some ⟨w.heap.size, 0, none⟩)]) ∧ w' = w.alloc (.cells #[.slice A n c] 22) := by
  go_enter Try.func22, Try.ntmps22
  go_wp2
  go_ret
  exact ⟨rfl, rfl⟩
def strsOf (l : List ByteArray) : List (List UInt8) := l.map (fun s => s.data.toList)
set_option maxRecDepth 100000 in
set_option maxHeartbeats 2000000 in
theorem values_gives (l : List ByteArray) (A : Option Addr) (c : Nat) (w : World) (hC : Kd.C Kd.string w A l.length l) (hc : l.length ≤ c) (Bm : Nat) (hBm : Bm < w.heap.size) (hm : w.cell? ⟨Bm, 0, none⟩ = some (.slice A l.length c)) (n : Nat) (hn : 1 ≤ n)
    (lp : Nat) (J : List (List UInt8) → World → Prop) (W : World) (hW : Below w.heap.size w W) (hJb : ∀ s W, J s W → Below w.heap.size w W)
    (hY : ∀ pre x W1, J pre W1 → pre.length < l.length → YieldAt Fence.wide (n - 1) Try.prog lp #[encStr x] W1 fun e W' => e = .returned (.bool true) ∧ J (pre ++ [x]) W' ∧ KeepsWalks W1 W') (h0 : J [] W) :
    CallsIn Fence.wide n Try.prog 50 (#[.func (.yield lp) #[] #[]] ++ #[.pointer (some ⟨Bm, 0, none⟩)]) W fun e W' => (∃ v, e = .returned v) ∧ J (strsOf l) W' := by
  have hbox := (hW.cell (p := ⟨Bm, 0, none⟩) hBm).trans hm
  refine callsIn_of_wp Try.func50 rfl trivial ?_ rfl
  simp only [Try.ntmps50, List.size_toArray, List.length_cons, List.length_nil, Nat.reduceAdd, Nat.reduceSub, Array.replicate_succ, Array.replicate_zero, List.push_toArray, List.append_toArray, List.nil_append, List.cons_append]
  gi_wp2
  gi_loopw [7] (fun s7 wr => ∃ j : Nat, j ≤ l.length ∧ s7 = .int .i64 j ∧ J (strsOf (l.take j)) wr) (fun i _ => l.length - (intOf i).toNat)
  case atStart => exact ⟨0, Nat.zero_le _, rfl, h0⟩
  case round =>
    obtain ⟨j, hj, rfl, hJs⟩ := hrel
    by_cases hlt : j < l.length
    · have hltn : decide (j < l.length) = true := decide_eq_true hlt
      have hltz : decide ((j : Int) < (l.length : Int)) = true := decide_eq_true (by omega)
      obtain ⟨ad, e, hx⟩ := Kd.at_string hC (j : Int) (by omega) (by omega)
      cases e
      have hbw := hJb _ _ hJs
      replace hx := (hbw.cell (World.block_lt_of_cell? w _ hx)).trans hx
      rw [Int.toNat_natCast] at hx
      have hxe : rdOf ByteArray.empty l (j : Int) = l[j] := by simp [rdOf, hlt]
      have htk : strsOf (l.take (j + 1)) = strsOf (l.take j) ++ [(rdOf ByteArray.empty l (j : Int)).data.toList] := by
        unfold strsOf
        rw [List.take_add_one, List.getElem?_eq_getElem hlt, List.map_append, hxe]
        rfl
      obtain ⟨fn, tmps, assign, body, hy, hR⟩ := hY (strsOf (l.take j)) (rdOf ByteArray.empty l (j : Int)).data.toList wr hJs (by unfold strsOf; rw [List.length_map, List.length_take]; omega)
      rw [show encStr (rdOf ByteArray.empty l (j : Int)).data.toList = .string (rdOf ByteArray.empty l (j : Int)) from rfl] at hy
      have HTK := Aside0.mk htk; have HLT := Aside0.mk hlt
      generalize rdOf ByteArray.empty l (j : Int) = x at *
      have hpz : ((0 : Int) ≤ (j : Int)) = True := eq_true (by omega)
      have hpl : ((j : Int) < (l.length : Int)) = True := eq_true (by omega)
      have hpj : IntKind.i64.wrap ((j : Int) + 1) = (j : Int) + 1 := IntWalk.i64_in _ (by have := hC.2.1; omega)
      clear htk hxe hlt hj
      gi_wp2
      refine hR.mono ?_
      rintro e W3 ⟨rfl, hJ3, hk3⟩
      gi_wp2
      go_roundw
      case rel => exact ⟨j + 1, HLT.out, by push_cast; rfl, by rw [HTK.out]; exact hJ3⟩
      case measure => have := HLT.out; simp [intOf]; omega
    · have hje : j = l.length := by omega
      subst hje
      rw [List.take_length] at hJs
      have hltn : decide (l.length < l.length) = false := decide_eq_false (by omega)
      gi_wp2
      go_end0
      exact ⟨⟨_, rfl⟩, hJs⟩
end Go.Proofs.Ytimjafjicnlhfaa.A
namespace Go.Proofs.Ytimjafjicnlhfaa.A
open Go.RowKit Go.Proofs.YtimjafjicnlhfaaW.PrintWords Go.Proofs.YtimjafjicnlhfaaW.PrintLast Go.Proofs.YtimjafjicnlhfaaW.PrintMore
open Go.Shelf Go.Sort Go.Maps
set_option linter.unusedVariables false
set_option linter.unusedSimpArgs false
theorem sortsV (m : Nat) : AnyZ.SortsIn Try.prog Try.sorted21_ren Fence.wide m :=
  ⟨fun blk off cap ss W hH hblk hsz => callsIn_wide.2 (AnyM.slices_Sort_string Try.sort49 blk off cap ss W hH hblk hsz),
   fun p cap W => callsIn_wide.2 (AnyM.slices_Sort_string_none Try.sort49 p cap W)⟩
abbrev rhoV : Ren := Try.sorted21_ren
set_option maxRecDepth 100000 in
set_option maxHeartbeats 4000000 in

theorem appendV (l : List ByteArray) (A : Option Addr) (c : Nat) (w : World) (hC : Kd.C Kd.string w A l.length l) (hc : l.length ≤ c) (hl : l.length ≤ 1048576) (Bm : Nat) (hBm : Bm < w.heap.size) (hm : w.cell? ⟨Bm, 0, none⟩ = some (.slice A l.length c)) :
    CallsIn Fence.wide 5 Try.prog (rhoV.f 11) #[.slice none 0 0, .func (.func 50) #[] #[.pointer (some ⟨Bm, 0, none⟩)]] w fun e w' => ∃ v : Value, e = .returned v ∧
      w'.ownsRow w.heap.size (rhoV.t 26) 1 v (strsOf l).length ((strsOf l).map encStr) ∧ (v = .slice none 0 0 ↔ strsOf l = []) ∧ Below w.heap.size w w' := by
  have L : SlLaysZ.n11 Try.prog rhoV := { Try.sorted21 with }
  have mixed := L.mixed; have t0 := L.t0; have a0 := L.a0; have z0 := L.z0; have v0 := L.v0; have t24 := L.t24; have a24 := L.a24; have z24 := L.z24; have v24 := L.v24; have t26 := L.t26; have a26 := L.a26; have z26 := L.z26; have v26 := L.v26; have t28 := L.t28; have a28 := L.a28; have z28 := L.z28; have v28 := L.v28
  have hne : rhoV.t 24 ≠ rhoV.t 26 := fun e => by have h := L.t24; rw [e, L.t26] at h; cases h
  have u0 := run_underlying L.t0; have u24 := run_underlying L.t24; have u26 := run_underlying L.t26; have u28 := run_underlying L.t28
  have eg : ∀ args w, (callFunc 50 args).run Try.prog w = .ok (.enter 50 args) w := enters_of Try.func50 (by kernel_rfl) rfl
  have hg := fun lp J W hW hJb hY h0 => values_gives l A c w hC hc Bm hBm hm 4 (by decide) lp J W hW hJb hY h0
  have hlm : l.length ≤ maxLen := by unfold maxLen; omega
  have hlb : l.length * 16 ≤ 140737488355328 := by omega
  generalize hs : strsOf l = ss at *
  generalize hnn : l.length = nn at *
  clear hC hc hm hs hnn hl
  obtain ⟨_, _, FG⟩ := L.f11
  refine callsIn_of_wp_marks FG rfl trivial ?_ rfl
  simp only [SlBodyZ.n11_ntmps rhoV, List.size_toArray, List.length_cons, List.length_nil, Nat.reduceAdd, Nat.reduceSub, Array.replicate_succ, Array.replicate_zero, List.push_toArray, List.append_toArray, List.nil_append, List.cons_append]
  gi_wp2
  refine wpIn_rangeFunc ?_
  intro fn hfn
  rw [show Fence.wide.round = none from rfl]
  obtain ⟨W0, hW0⟩ : ∃ W0, w.alloc (.cells #[.slice none 0 0] (rhoV.t 24)) = W0 := ⟨_, rfl⟩
  have hs0 : W0.heap.size = w.heap.size + 1 := by rw [← hW0]; simp
  have hv0 : W0.heap[w.heap.size]? = some (.cells #[.slice none 0 0] (rhoV.t 24) (0, 0)) := by rw [← hW0]; exact World.alloc_heap_new w _
  have hb0 : Below w.heap.size w W0 := by rw [← hW0]; exact (Below.refl _ w).alloc (Nat.le_refl _) _
  rw [hW0]
  obtain ⟨sv, hsv⟩ : ∃ sv, sv = Value.func (.func 50) #[] #[.pointer (some ⟨Bm, 0, none⟩)] := ⟨_, rfl⟩
  obtain ⟨W1, hW1⟩ : ∃ W1, (W0.alloc (.deferred (some []))).alloc (.loop (AnyZ.apRec rhoV fn sv w.heap.size W0.heap.size .ready none)) = W1 := ⟨_, rfl⟩
  have hold : ∀ k, k < W0.heap.size → W1.heap[k]? = W0.heap[k]? := fun k hk => by
    rw [← hW1]; exact (Below.heap_alloc _ _ k (by simp; omega)).trans (Below.heap_alloc _ _ k hk)
  have hb1 : Below w.heap.size w W1 := by rw [← hW1]; exact (hb0.alloc hb0.size _).alloc (by have := hb0.size; simp; omega) _
  have hs1 : W1.heap.size = W0.heap.size + 2 := by rw [← hW1]; simp
  have hM : AnyZ.ApAt rhoV w fn sv w.heap.size (W0.heap.size + 1) W0.heap.size [] W1 :=
    ⟨⟨_, (hold w.heap.size (by omega)).trans hv0, ⟨rfl, .inl ⟨rfl, rfl⟩⟩, by simp⟩,
     by rw [← hW1]; have := World.alloc_heap_new (W0.alloc (.deferred (some []))) (.loop (AnyZ.apRec rhoV fn sv w.heap.size W0.heap.size .ready none)); rwa [World.size_alloc] at this,
     by rw [← hW1]; exact (Below.heap_alloc _ _ _ (by simp)).trans (World.alloc_heap_new W0 _), hb1⟩
  subst hsv
  refine ⟨W0.heap.size + 1, [{ target := .collected W0.heap.size, args := #[] }], W1, { target := .fn (.func 50) #[.pointer (some ⟨Bm, 0, none⟩)], args := #[.func (.yield (W0.heap.size + 1)) #[] #[]] }, W1, 50,
    #[.func (.yield (W0.heap.size + 1)) #[] #[]] ++ #[.pointer (some ⟨Bm, 0, none⟩)], W1, ?_, ?_, ?_, ?_, fun _ => by decide, ?_⟩
  · rw [← hW1]; exact run_enterLoop_outer _ _ _ _ _
  · simp [resolve, go_sem]
  · intro f' hf'; trivial
  · simp [invoke, go_sem, eg]
  · refine (hg (W0.heap.size + 1) _ W1 hb1 (fun s W h => h.below)
      (fun pre x W hJ hl => AnyZ.apYield L Fence.wide 3 w fn hfn _ w.heap.size (W0.heap.size + 1) W0.heap.size (by omega) (by omega) (by omega) (Nat.le_refl _) (by omega) nn hlm hlb pre x W hJ hl) hM).mono ?_
    rintro e W2 ⟨⟨v0, rfl⟩, h2⟩
    obtain ⟨v, hv, hrow, hnil⟩ := h2.box
    have hend := run_endLoop (P := Try.prog) h2.L (by simp [AnyZ.apRec])
    obtain ⟨W3, hW3⟩ : ∃ W3, W2.putObj (W0.heap.size + 1) (.loop { AnyZ.apRec rhoV fn (.func (.func 50) #[] #[.pointer (some ⟨Bm, 0, none⟩)]) w.heap.size W0.heap.size .ready none with state := .exhausted }) = W3 := ⟨_, rfl⟩
    rw [hW3] at hend
    have hg3 : W2.grownBy W3 (some (W0.heap.size + 1)) := by rw [← hW3]; exact grownBy_putObj_a _ _ _
    have hv3 : W3.heap[w.heap.size]? = some (.cells #[v] (rhoV.t 24) (0, 0)) := by rw [← hW3]; exact (World.putObj_heap_other (by omega)).trans hv
    have hK3 : W3.heap[W0.heap.size]? = some (.deferred (some [])) := by rw [← hW3]; exact (World.putObj_heap_other (by omega)).trans h2.K
    have hrow3 := hrow.kept hg3 (ownsRow_ne_a hrow h2.L (fun cur e => by first | cases e | exact hne (Obj.cells.inj e).2.1))
    have hb3 : Below w.heap.size w W3 := h2.below.grown hg3 h2.below.size (fun k e => by cases e; omega)
    obtain ⟨hc3, hf3⟩ := cell_of_box_a hv3
    clear hW3
    refine ⟨none, W3, hend, ?_⟩
    gi_wp2
    rw [← hs0]
    refine ⟨by simp, .inl ⟨_, _, rfl, run_takeDeferred hK3, ?_⟩⟩
    exact ⟨_, results_tmp rfl _ _ _, v, rfl, hrow3.kept (grownBy_putObj_a _ _ _) (ownsRow_ne_a hrow3 hK3 (fun cur e => by first | cases e | exact hne (Obj.cells.inj e).2.1)), hnil, hb3.grown (grownBy_putObj_a _ _ _) hb3.size (fun k e => by cases e; omega)⟩
set_option maxRecDepth 100000 in
set_option maxHeartbeats 4000000 in
theorem collectV (l : List ByteArray) (A : Option Addr) (c : Nat) (w : World) (hC : Kd.C Kd.string w A l.length l) (hc : l.length ≤ c) (hl : l.length ≤ 1048576) (Bm : Nat) (hBm : Bm < w.heap.size) (hm : w.cell? ⟨Bm, 0, none⟩ = some (.slice A l.length c)) :
    Calls Try.prog 48 #[.func (.func 50) #[] #[.pointer (some ⟨Bm, 0, none⟩)]] w fun e w' => ∃ v : Value, e = .returned v ∧
      w'.ownsRow w.heap.size 9 1 v (strsOf l).length ((strsOf l).map encStr) ∧ (v = .slice none 0 0 ↔ strsOf l = []) ∧ Below w.heap.size w w' := by
  have ha := (callsIn_wide (n := 5)).1 (appendV l A c w hC hc hl Bm hBm hm)
  have HA := Aside0.mk ha
  clear ha hC hc hm hl
  go_enter Try.func48, Try.ntmps48
  go_wp2_with fail
  refine HA.out.mono ?_
  rintro e w1 ⟨v, rfl, hrow, hnil, hb⟩
  have HR := Aside0.mk (And.intro hrow (And.intro hnil hb))
  clear hrow hnil hb HA
  go_wp2_with fail
  go_ret
  exact ⟨v, rfl, HR.out⟩
set_option maxRecDepth 100000 in
set_option maxHeartbeats 4000000 in
theorem sortedV (l : List ByteArray) (A : Option Addr) (c : Nat) (w : World) (hC : Kd.C Kd.string w A l.length l) (hc : l.length ≤ c) (hl : l.length ≤ 1048576) (Bm : Nat) (hBm : Bm < w.heap.size) (hm : w.cell? ⟨Bm, 0, none⟩ = some (.slice A l.length c)) :
    Calls Try.prog 21 #[.func (.func 50) #[] #[.pointer (some ⟨Bm, 0, none⟩)]] w fun e w' => ∃ v : Value, e = .returned v ∧
      w'.ownsRow w.heap.size 9 1 v (strsOf l).length (((strsOf l).mergeSort (fun x y => decide (x ≤ y))).map encStr) ∧ (v = .slice none 0 0 ↔ strsOf l = []) ∧ Below w.heap.size w w' := by
  have ha := collectV l A c w hC hc hl Bm hBm hm
  have hsl : (strsOf l).length ≤ 1048576 := by unfold strsOf; rw [List.length_map]; exact hl
  have HA := Aside0.mk ha; have HSL := Aside0.mk hsl
  generalize strsOf l = ss at *
  clear ha hC hc hm hl hsl
  have hst := fun p cap W => (callsIn_wide (n := 5)).1 ((sortsV 5).2 p cap W)
  have hss := fun blk off cap ss W h1 h2 h3 => (callsIn_wide (n := 5)).1 ((sortsV 5).1 blk off cap ss W h1 h2 h3)
  have HST := Aside0.mk hst; have HSS := Aside0.mk hss
  clear hst hss
  go_enter Try.func21, Try.ntmps21
  go_wp2_with fail
  refine HA.out.mono ?_
  rintro e w1 ⟨v, rfl, hrow, hnil, hb⟩
  have HN := Aside0.mk hnil; have HB := Aside0.mk hb; have HR := Aside0.mk hrow
  clear hnil hb HA
  rcases hrow.2 with ⟨rfl, hz⟩ | ⟨gb, cap, cur, rfl, hbase, hgb, r1, r2, r3, r4⟩
  · have hss : ss = [] := List.eq_nil_of_length_eq_zero hz
    subst hss
    clear hrow
    go_wp2_with fail
    refine (HST.out none 0 w1).mono ?_
    rintro e w2 ⟨rfl, rfl⟩
    go_wp2_with fail
    go_ret
    exact ⟨.slice none 0 0, rfl, by simpa using HR.out, by simp, HB.out⟩
  · have hH : Holds encStr w1 gb 0 ss.toArray := holds_of_block hgb (by simpa using r4)
    have hgl : gb < w1.heap.size := (Array.getElem?_eq_some_iff.1 hgb).1
    have hsz : ss.length < 4611686018427387904 := by have := HSL.out; omega
    have cS := Aside0.mk (HSS.out gb 0 cap ss w1 hH hgl hsz)
    have HRR := Aside0.mk (And.intro hbase (And.intro hgb (And.intro r1 (And.intro r2 r3))))
    clear hH hgl hsz hbase hgb r1 r2 r3 r4 hrow
    go_wp2_with fail
    refine cS.out.mono ?_
    rintro e w2 ⟨rfl, nn, os, rfl⟩
    go_wp2_with fail
    go_ret
    obtain ⟨hbase, hgb, r1, r2, r3⟩ := HRR.out
    exact ⟨_, rfl, ownsRow_sorted (by simp) hbase hgb r1 r2 r3, HN.out, HB.out.grown (grownBy_sorted _) HB.out.size (fun j hj => by cases hj; exact hbase)⟩
end Go.Proofs.Ytimjafjicnlhfaa.A
namespace Go.Proofs.Ytimjafjicnlhfaa.A
open Go.RowKit Go.Proofs.YtimjafjicnlhfaaW.PrintWords Go.Proofs.YtimjafjicnlhfaaW.PrintLast Go.Proofs.YtimjafjicnlhfaaW.PrintMore
open Go.Shelf Go.Sort Go.Maps
set_option linter.unusedVariables false
set_option linter.unusedSimpArgs false
theorem compact_le (zs : List (List UInt8)) : (Lib.compact zs).length ≤ zs.length := by
  unfold Lib.compact Lib.compactUpTo
  rw [List.length_map]
  exact Nat.le_trans (List.length_filter_le _ _) (by simp)
theorem own_cut {w : World} {base : Nat} {e : TypeId} {g n cap k : Nat} {xs : List Value} (h : w.ownsRow base e 1 (.slice (some ⟨g, 0, none⟩) n cap) n xs) (hk : k ≤ n) : w.ownsRow base e 1 (.slice (some ⟨g, 0, none⟩) k cap) k (xs.take k) := by
  have hl : xs.length = n := by simpa using h.1
  rcases h.2 with ⟨h0, _⟩ | ⟨g', cap', cur, hv, hbg, hg, hnc, hcm, hcs, ht⟩
  · cases h0
  · cases hv
    refine ⟨by rw [List.length_take]; omega, .inr ⟨g, cap, cur, rfl, hbg, hg, by omega, hcm, hcs, ?_⟩⟩
    rw [← ht, List.take_take]
    congr 1
    omega
theorem grow_nil (w : World) : Go.Sort.grow w #[] = w := by simp [Go.Sort.grow]
set_option maxHeartbeats 4000000 in
theorem compactV (base : Nat) (v : Value) (ss : List (List UInt8)) (hl : ss.length ≤ 1048576) (w : World) (ho : w.ownsRow base 9 1 v ss.length (ss.map encStr)) (hb : base ≤ w.heap.size) :
    Calls Try.prog 20 #[v] w fun e w' => ∃ v' : Value, e = .returned v' ∧ w'.ownsRow base 9 1 v' (Lib.compact ss).length ((Lib.compact ss).map encStr) ∧ Below base w w' := by
  rcases ho.2 with ⟨rfl, hz⟩ | ⟨gb, cap, cur, rfl, hbase, hgb, r1, r2, r3, r4⟩
  · have hss : ss = [] := List.eq_nil_of_length_eq_zero hz
    subst hss
    refine (Any.slices_Compact_string_empty Try.lays194 none 0 w).mono ?_
    rintro e w' ⟨rfl, rfl⟩
    exact ⟨_, rfl, ho, Below.refl _ _⟩
  · have hH : Holds encStr w gb 0 ss.toArray := holds_of_block hgb (by simpa using r4)
    refine (Any.slices_Compact_string Try.lays194 gb 0 cap ss w hH (by omega) r1).mono ?_
    rintro e w' ⟨rfl, q, rfl⟩
    have hcl := compact_le ss
    have hlen : (Lib.compact ss ++ List.replicate (ss.length - (Lib.compact ss).length) []).length = ss.length := by
      rw [List.length_append, List.length_replicate]; omega
    have h1 := ownsRow_sorted (os := #[]) (n := q) hlen hbase hgb r1 r2 r3
    have h2 := grownBy_sorted (w := w) (g := gb) (n := q) (os := #[]) (Lib.compact ss ++ List.replicate (ss.length - (Lib.compact ss).length) []).toArray
    rw [grow_nil] at h1 h2
    have h3 := own_cut h1 hcl
    rw [← List.map_take, List.take_left' rfl] at h3
    exact ⟨_, rfl, h3, (Below.refl base w).grown h2 hb (fun j hj => by cases hj; exact hbase)⟩
end Go.Proofs.Ytimjafjicnlhfaa.A
