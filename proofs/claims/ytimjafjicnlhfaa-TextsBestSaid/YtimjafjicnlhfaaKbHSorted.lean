/- slices.Sorted(slices.Values(l)) at texts: a new slice that holds the texts in order. -/
import Derived.Test.YtimjafjicnlhfaaKbAx0
import Derived.Test.YtimjafjicnlhfaaKbHVals
import Derived.Sort.OwnSorted
namespace Go.Proofs.Ytimjafjicnlhfaa.A
open Go.RowKit Go.Proofs.YtimjafjicnlhfaaW.PrintWords Go.Proofs.YtimjafjicnlhfaaW.PrintLast Go.Proofs.YtimjafjicnlhfaaW.PrintMore
open Go.Shelf Go.Sort Go.Maps
set_option linter.unusedVariables false
set_option linter.unusedSimpArgs false
theorem sortsV (m : Nat) : AnyZ.SortsIn Try.prog Try.sorted21_ren Fence.wide m :=
  ⟨fun blk off cap ss W hH hblk hsz => callsIn_wide.2 (AnyM.slices_Sort_string Try.sort49 blk off cap ss W hH hblk hsz),
   fun p cap W => callsIn_wide.2 (AnyM.slices_Sort_string_none Try.sort49 p cap W)⟩
abbrev rhoV : Ren := Try.sorted21_ren
set_option maxRecDepth 100000 in
set_option maxHeartbeats 4000000 in

theorem appendV (l : List ByteArray) (A : Option Addr) (c : Nat) (w : World) (hC : Kd.C Kd.string w A l.length l) (hc : l.length ≤ c) (hl : l.length ≤ 1048576) (Bm : Nat) (hBm : Bm < w.heap.size) (hm : w.cell? ⟨Bm, 0, none⟩ = some (.slice A l.length c)) :
    CallsIn Fence.wide 5 Try.prog (rhoV.f 11) #[.slice none 0 0, .func (.func 50) #[] #[.pointer (some ⟨Bm, 0, none⟩)]] w fun e w' => ∃ v : Value, e = .returned v ∧
      w'.ownsRow w.heap.size (rhoV.t 26) 1 v (strsOf l).length ((strsOf l).map encStr) ∧ (v = .slice none 0 0 ↔ strsOf l = []) ∧ Below w.heap.size w w' := by
  have L : SlLaysZ.n11 Try.prog rhoV := { Try.sorted21 with }
  have mixed := L.mixed; have t0 := L.t0; have a0 := L.a0; have z0 := L.z0; have v0 := L.v0; have t24 := L.t24; have a24 := L.a24; have z24 := L.z24; have v24 := L.v24; have t26 := L.t26; have a26 := L.a26; have z26 := L.z26; have v26 := L.v26; have t28 := L.t28; have a28 := L.a28; have z28 := L.z28; have v28 := L.v28
  have hne : rhoV.t 24 ≠ rhoV.t 26 := fun e => by have h := L.t24; rw [e, L.t26] at h; cases h
  have u0 := run_underlying L.t0; have u24 := run_underlying L.t24; have u26 := run_underlying L.t26; have u28 := run_underlying L.t28
  have eg : ∀ args w, (callFunc 50 args).run Try.prog w = .ok (.enter 50 args) w := enters_of Try.func50 (by kernel_rfl) rfl
  have hg := fun lp J W hW hJb hY h0 => values_gives l A c w hC hc Bm hBm hm 4 (by decide) lp J W hW hJb hY h0
  have hlm : l.length ≤ maxLen := by unfold maxLen; omega
  have hlb : l.length * 16 ≤ 140737488355328 := by omega
  generalize hs : strsOf l = ss at *
  generalize hnn : l.length = nn at *
  clear hC hc hm hs hnn hl
  obtain ⟨_, _, FG⟩ := L.f11
  refine callsIn_of_wp_marks FG rfl trivial ?_ rfl
  simp only [SlBodyZ.n11_ntmps rhoV, List.size_toArray, List.length_cons, List.length_nil, Nat.reduceAdd, Nat.reduceSub, Array.replicate_succ, Array.replicate_zero, List.push_toArray, List.append_toArray, List.nil_append, List.cons_append]
  gi_wp2
  refine wpIn_rangeFunc ?_
  intro fn hfn
  rw [show Fence.wide.round = none from rfl]
  obtain ⟨W0, hW0⟩ : ∃ W0, w.alloc (.cells #[.slice none 0 0] (rhoV.t 24)) = W0 := ⟨_, rfl⟩
  have hs0 : W0.heap.size = w.heap.size + 1 := by rw [← hW0]; simp
  have hv0 : W0.heap[w.heap.size]? = some (.cells #[.slice none 0 0] (rhoV.t 24) (0, 0)) := by rw [← hW0]; exact World.alloc_heap_new w _
  have hb0 : Below w.heap.size w W0 := by rw [← hW0]; exact (Below.refl _ w).alloc (Nat.le_refl _) _
  rw [hW0]
  obtain ⟨sv, hsv⟩ : ∃ sv, sv = Value.func (.func 50) #[] #[.pointer (some ⟨Bm, 0, none⟩)] := ⟨_, rfl⟩
  obtain ⟨W1, hW1⟩ : ∃ W1, (W0.alloc (.deferred (some []))).alloc (.loop (AnyZ.apRec rhoV fn sv w.heap.size W0.heap.size .ready none)) = W1 := ⟨_, rfl⟩
  have hold : ∀ k, k < W0.heap.size → W1.heap[k]? = W0.heap[k]? := fun k hk => by
    rw [← hW1]; exact (Below.heap_alloc _ _ k (by simp; omega)).trans (Below.heap_alloc _ _ k hk)
  have hb1 : Below w.heap.size w W1 := by rw [← hW1]; exact (hb0.alloc hb0.size _).alloc (by have := hb0.size; simp; omega) _
  have hs1 : W1.heap.size = W0.heap.size + 2 := by rw [← hW1]; simp
  have hM : AnyZ.ApAt rhoV w fn sv w.heap.size (W0.heap.size + 1) W0.heap.size [] W1 :=
    ⟨⟨_, (hold w.heap.size (by omega)).trans hv0, ⟨rfl, .inl ⟨rfl, rfl⟩⟩, by simp⟩,
     by rw [← hW1]; have := World.alloc_heap_new (W0.alloc (.deferred (some []))) (.loop (AnyZ.apRec rhoV fn sv w.heap.size W0.heap.size .ready none)); rwa [World.size_alloc] at this,
     by rw [← hW1]; exact (Below.heap_alloc _ _ _ (by simp)).trans (World.alloc_heap_new W0 _), hb1⟩
  subst hsv
  refine ⟨W0.heap.size + 1, [{ target := .collected W0.heap.size, args := #[] }], W1, { target := .fn (.func 50) #[.pointer (some ⟨Bm, 0, none⟩)], args := #[.func (.yield (W0.heap.size + 1)) #[] #[]] }, W1, 50,
    #[.func (.yield (W0.heap.size + 1)) #[] #[]] ++ #[.pointer (some ⟨Bm, 0, none⟩)], W1, ?_, ?_, ?_, ?_, fun _ => by decide, ?_⟩
  · rw [← hW1]; exact run_enterLoop_outer _ _ _ _ _
  · simp [resolve, go_sem]
  · intro f' hf'; trivial
  · simp [invoke, go_sem, eg]
  · refine (hg (W0.heap.size + 1) _ W1 hb1 (fun s W h => h.below)
      (fun pre x W hJ hl => AnyZ.apYield L Fence.wide 3 w fn hfn _ w.heap.size (W0.heap.size + 1) W0.heap.size (by omega) (by omega) (by omega) (Nat.le_refl _) (by omega) nn hlm hlb pre x W hJ hl) hM).mono ?_
    rintro e W2 ⟨⟨v0, rfl⟩, h2⟩
    obtain ⟨v, hv, hrow, hnil⟩ := h2.box
    have hend := run_endLoop (P := Try.prog) h2.L (by simp [AnyZ.apRec])
    obtain ⟨W3, hW3⟩ : ∃ W3, W2.putObj (W0.heap.size + 1) (.loop { AnyZ.apRec rhoV fn (.func (.func 50) #[] #[.pointer (some ⟨Bm, 0, none⟩)]) w.heap.size W0.heap.size .ready none with state := .exhausted }) = W3 := ⟨_, rfl⟩
    rw [hW3] at hend
    have hg3 : W2.grownBy W3 (some (W0.heap.size + 1)) := by rw [← hW3]; exact grownBy_putObj_a _ _ _
    have hv3 : W3.heap[w.heap.size]? = some (.cells #[v] (rhoV.t 24) (0, 0)) := by rw [← hW3]; exact (World.putObj_heap_other (by omega)).trans hv
    have hK3 : W3.heap[W0.heap.size]? = some (.deferred (some [])) := by rw [← hW3]; exact (World.putObj_heap_other (by omega)).trans h2.K
    have hrow3 := hrow.kept hg3 (ownsRow_ne_a hrow h2.L (fun cur e => by first | cases e | exact hne (Obj.cells.inj e).2.1))
    have hb3 : Below w.heap.size w W3 := h2.below.grown hg3 h2.below.size (fun k e => by cases e; omega)
    obtain ⟨hc3, hf3⟩ := cell_of_box_a hv3
    clear hW3
    refine ⟨none, W3, hend, ?_⟩
    gi_wp2
    rw [← hs0]
    refine ⟨by simp, .inl ⟨_, _, rfl, run_takeDeferred hK3, ?_⟩⟩
    exact ⟨_, results_tmp rfl _ _ _, v, rfl, hrow3.kept (grownBy_putObj_a _ _ _) (ownsRow_ne_a hrow3 hK3 (fun cur e => by first | cases e | exact hne (Obj.cells.inj e).2.1)), hnil, hb3.grown (grownBy_putObj_a _ _ _) hb3.size (fun k e => by cases e; omega)⟩
set_option maxRecDepth 100000 in
set_option maxHeartbeats 4000000 in
theorem collectV (l : List ByteArray) (A : Option Addr) (c : Nat) (w : World) (hC : Kd.C Kd.string w A l.length l) (hc : l.length ≤ c) (hl : l.length ≤ 1048576) (Bm : Nat) (hBm : Bm < w.heap.size) (hm : w.cell? ⟨Bm, 0, none⟩ = some (.slice A l.length c)) :
    Calls Try.prog 48 #[.func (.func 50) #[] #[.pointer (some ⟨Bm, 0, none⟩)]] w fun e w' => ∃ v : Value, e = .returned v ∧
      w'.ownsRow w.heap.size 9 1 v (strsOf l).length ((strsOf l).map encStr) ∧ (v = .slice none 0 0 ↔ strsOf l = []) ∧ Below w.heap.size w w' := by
  have ha := (callsIn_wide (n := 5)).1 (appendV l A c w hC hc hl Bm hBm hm)
  have HA := Aside0.mk ha
  clear ha hC hc hm hl
  go_enter Try.func48, Try.ntmps48
  go_wp2_with fail
  refine HA.out.mono ?_
  rintro e w1 ⟨v, rfl, hrow, hnil, hb⟩
  have HR := Aside0.mk (And.intro hrow (And.intro hnil hb))
  clear hrow hnil hb HA
  go_wp2_with fail
  go_ret
  exact ⟨v, rfl, HR.out⟩
set_option maxRecDepth 100000 in
set_option maxHeartbeats 4000000 in
theorem sortedV (l : List ByteArray) (A : Option Addr) (c : Nat) (w : World) (hC : Kd.C Kd.string w A l.length l) (hc : l.length ≤ c) (hl : l.length ≤ 1048576) (Bm : Nat) (hBm : Bm < w.heap.size) (hm : w.cell? ⟨Bm, 0, none⟩ = some (.slice A l.length c)) :
    Calls Try.prog 21 #[.func (.func 50) #[] #[.pointer (some ⟨Bm, 0, none⟩)]] w fun e w' => ∃ v : Value, e = .returned v ∧
      w'.ownsRow w.heap.size 9 1 v (strsOf l).length (((strsOf l).mergeSort (fun x y => decide (x ≤ y))).map encStr) ∧ (v = .slice none 0 0 ↔ strsOf l = []) ∧ Below w.heap.size w w' := by
  have ha := collectV l A c w hC hc hl Bm hBm hm
  have hsl : (strsOf l).length ≤ 1048576 := by unfold strsOf; rw [List.length_map]; exact hl
  have HA := Aside0.mk ha; have HSL := Aside0.mk hsl
  generalize strsOf l = ss at *
  clear ha hC hc hm hl hsl
  have hst := fun p cap W => (callsIn_wide (n := 5)).1 ((sortsV 5).2 p cap W)
  have hss := fun blk off cap ss W h1 h2 h3 => (callsIn_wide (n := 5)).1 ((sortsV 5).1 blk off cap ss W h1 h2 h3)
  have HST := Aside0.mk hst; have HSS := Aside0.mk hss
  clear hst hss
  go_enter Try.func21, Try.ntmps21
  go_wp2_with fail
  refine HA.out.mono ?_
  rintro e w1 ⟨v, rfl, hrow, hnil, hb⟩
  have HN := Aside0.mk hnil; have HB := Aside0.mk hb; have HR := Aside0.mk hrow
  clear hnil hb HA
  rcases hrow.2 with ⟨rfl, hz⟩ | ⟨gb, cap, cur, rfl, hbase, hgb, r1, r2, r3, r4⟩
  · have hss : ss = [] := List.eq_nil_of_length_eq_zero hz
    subst hss
    clear hrow
    go_wp2_with fail
    refine (HST.out none 0 w1).mono ?_
    rintro e w2 ⟨rfl, rfl⟩
    go_wp2_with fail
    go_ret
    exact ⟨.slice none 0 0, rfl, by simpa using HR.out, by simp, HB.out⟩
  · have hH : Holds encStr w1 gb 0 ss.toArray := holds_of_block hgb (by simpa using r4)
    have hgl : gb < w1.heap.size := (Array.getElem?_eq_some_iff.1 hgb).1
    have hsz : ss.length < 4611686018427387904 := by have := HSL.out; omega
    have cS := Aside0.mk (HSS.out gb 0 cap ss w1 hH hgl hsz)
    have HRR := Aside0.mk (And.intro hbase (And.intro hgb (And.intro r1 (And.intro r2 r3))))
    clear hH hgl hsz hbase hgb r1 r2 r3 r4 hrow
    go_wp2_with fail
    refine cS.out.mono ?_
    rintro e w2 ⟨rfl, nn, os, rfl⟩
    go_wp2_with fail
    go_ret
    obtain ⟨hbase, hgb, r1, r2, r3⟩ := HRR.out
    exact ⟨_, rfl, ownsRow_sorted (by simp) hbase hgb r1 r2 r3, HN.out, HB.out.grown (grownBy_sorted _) HB.out.size (fun j hj => by cases hj; exact hbase)⟩
end Go.Proofs.Ytimjafjicnlhfaa.A
