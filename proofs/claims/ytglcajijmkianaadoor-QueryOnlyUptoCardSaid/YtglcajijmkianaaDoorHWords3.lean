/- A query's words: and, or. -/
import Derived.Test.YtglcajijmkianaaDoorAx0
import Derived.Test.YtglcajijmkianaaDoorAx2
import Derived.Test.YtglcajijmkianaaDoorHWords2
namespace Go.Proofs.YtglcajijmkianaaDoor.A
open Go.RowKit Go.Proofs.YtglcajijmkianaaDoorW.PrintWords Go.Proofs.YtglcajijmkianaaDoorW.PrintLast Go.Proofs.YtglcajijmkianaaDoorW.PrintMore
open Go.Shelf Go.Lib Go.Sort
set_option linter.unusedVariables false
set_option linter.unusedSimpArgs false

set_option maxRecDepth 100000 in
set_option maxHeartbeats 16000000 in
theorem words_two (left : Nat) (IH : WordsSaid left) (w0 : World) (q : S28) (ws : List ByteArray) (A : Option Addr) (c : Nat) (v : Value) (xs : List ByteArray) (w : World) (hG : Globs w0) (hC : Kd.C k28 w0 A q.f2.length q.f2) (hI : WS w0 w v xs) (hl : (xs.length + ws.length) * 16 ≤ 140737488355328) (h : wordsO (left + 1) q = some ws) (h1 : q.f0 ≠ 1) (h4 : q.f0 ≠ 4) :
    Calls Tryd.prog 26 #[v, .agg #[.int .i64 q.f0, .int .i64 q.f1.f0, .int .i64 q.f1.f1, .bool q.f1.f2.f0, .int .i64 q.f1.f2.f1, .string q.f1.f2.f2, .slice A q.f2.length c]] w fun e w' => ∃ v', e = .returned v' ∧ WS w0 w' v' (xs ++ ws) ∧ K9 w v w' v' := by
  unfold wordsO at h
  rw [if_neg h1, if_neg h4] at h
  split at h
  case h_2 => cases h
  rename_i _ k l rest hk
  obtain ⟨us, hus, h⟩ := Option.bind_eq_some_iff.mp h
  obtain ⟨ts, hts, hws⟩ := Option.map_eq_some_iff.mp h
  obtain ⟨kb, ko, A6, c6, rfl, f0, f1, f2, f3, f4, f5, f6, l6, g6⟩ := kid_cells hC (i := 0) (k := k) (by rw [hk]; rfl)
  obtain ⟨kb2, ko2, A7, c7, he, g0, g1, g2, g3, g4, g5, g7, l7, gg⟩ := kid_cells hC (i := 1) (k := l) (by rw [hk]; rfl)
  cases he
  simp only [Nat.zero_mul, Nat.add_zero] at f0 f1 f2 f3 f4 f5 f6
  simp only [Nat.one_mul, Nat.add_assoc, Nat.reduceAdd] at g0 g1 g2 g3 g4 g5 g7
  have hn : 0 < q.f2.length := by rw [hk]; simp
  have hn1 : 1 < q.f2.length := by rw [hk]; simp
  have hu28 := Tryd.underlying28
  have hu25 := Tryd.underlying25
  have hu23 := Tryd.underlying23
  have hu39 := Tryd.underlying39
  have e1 : (q.f0 == 1) = false := by simpa using h1
  have e4 : (q.f0 == 4) = false := by simpa using h4
  obtain ⟨wd, hwd⟩ : ∃ wd, (if q.f0 = 3 then (⟨#[111, 114]⟩ : ByteArray) else ⟨#[97, 110, 100]⟩) = wd := ⟨_, rfl⟩
  rw [hwd] at hws
  have HI := Aside0.mk (hI.below (below_alloc (Below.refl _ _) (Obj.cells (qcells q (some ⟨kb, ko, none⟩) c) 28)))
  have HK := Aside0.mk (K9.below (v := v) (below_alloc (Below.refl w.heap.size w) (Obj.cells (qcells q (some ⟨kb, ko, none⟩) c) 28)))
  have KB := Aside0.mk (blk_new w (Obj.cells (qcells q (some ⟨kb, ko, none⟩) c) 28))
  have HWS := Aside0.mk hws
  have hl0 : (xs.length + ([(⟨#[40]⟩ : ByteArray)] ++ (us ++ ([wd] ++ (ts ++ [(⟨#[41]⟩ : ByteArray)])))).length) * 16 ≤ 140737488355328 := by
    have e : [(⟨#[40]⟩ : ByteArray)] ++ (us ++ ([wd] ++ (ts ++ [(⟨#[41]⟩ : ByteArray)]))) = ws := by rw [← hws]; simp only [List.append_assoc]
    rw [e]; exact hl
  have M1 := bound1 hl0
  have hl1 := bound2 hl0
  have M2 := bound1 hl1
  have hl2 := bound2 hl1
  have M3 := bound1 hl2
  have hl3 := bound2 hl2
  have M4 := bound1 hl3
  have hl4 := bound2 hl3
  have HL1 := Aside0.mk M1
  have HL3 := Aside0.mk M3
  have HL5 := Aside0.mk hl4
  have IHk := Aside0.mk (fun v1 W hW => IH w0 k us A6 c6 v1 (xs ++ [(⟨#[40]⟩ : ByteArray)]) W hG g6 l6 hW M2 hus)
  have IHl := Aside0.mk (fun v1 W hW => IH w0 l ts A7 c7 v1 (xs ++ [(⟨#[40]⟩ : ByteArray)] ++ us ++ [wd]) W hG gg l7 hW M4 hts)
  have F0 := Aside0.mk (fun W (hb : Below w0.heap.size w0 W) => pw_cell_below hb f0)
  have F1 := Aside0.mk (fun W (hb : Below w0.heap.size w0 W) => pw_cell_below hb f1)
  have F2 := Aside0.mk (fun W (hb : Below w0.heap.size w0 W) => pw_cell_below hb f2)
  have F3 := Aside0.mk (fun W (hb : Below w0.heap.size w0 W) => pw_cell_below hb f3)
  have F4 := Aside0.mk (fun W (hb : Below w0.heap.size w0 W) => pw_cell_below hb f4)
  have F5 := Aside0.mk (fun W (hb : Below w0.heap.size w0 W) => pw_cell_below hb f5)
  have F6 := Aside0.mk (fun W (hb : Below w0.heap.size w0 W) => pw_cell_below hb f6)
  have G0 := Aside0.mk (fun W (hb : Below w0.heap.size w0 W) => pw_cell_below hb g0)
  have G1 := Aside0.mk (fun W (hb : Below w0.heap.size w0 W) => pw_cell_below hb g1)
  have G2 := Aside0.mk (fun W (hb : Below w0.heap.size w0 W) => pw_cell_below hb g2)
  have G3 := Aside0.mk (fun W (hb : Below w0.heap.size w0 W) => pw_cell_below hb g3)
  have G4 := Aside0.mk (fun W (hb : Below w0.heap.size w0 W) => pw_cell_below hb g4)
  have G5 := Aside0.mk (fun W (hb : Below w0.heap.size w0 W) => pw_cell_below hb g5)
  have G6 := Aside0.mk (fun W (hb : Below w0.heap.size w0 W) => pw_cell_below hb g7)
  clear hC hI hl h h1 h4 hk hus hts hws f0 f1 f2 f3 f4 f5 f6 g0 g1 g2 g3 g4 g5 g7 M1 M2 M3 M4 hl0 hl1 hl2 hl3 hl4 IH hG g6 gg
  have e3 : (q.f0 == 3) = decide (q.f0 = 3) := by by_cases e : q.f0 = 3 <;> simp [e]
  by_cases h3 : q.f0 = 3
  all_goals
    first
      | (rw [if_pos h3] at hwd; rw [decide_eq_true h3] at e3)
      | (rw [if_neg h3] at hwd; rw [decide_eq_false h3] at e3)
    clear h3
    go_enter Tryd.func26, Tryd.ntmps26
    go_wp2_with fail
    simp only [hwd]
    clear hwd
    generalize w.alloc _ = W1 at HI HK KB ⊢
    generalize hbb : w.heap.size = b at KB ⊢
    have c6' := (blk_cell KB.out 6).trans rfl
    have f0 := F0.out W1 HI.out.bel
    have f1 := F1.out W1 HI.out.bel
    have f2 := F2.out W1 HI.out.bel
    have f3 := F3.out W1 HI.out.bel
    have f4 := F4.out W1 HI.out.bel
    have f5 := F5.out W1 HI.out.bel
    have f6 := F6.out W1 HI.out.bel
    clear hbb
    have N80 := Aside0.mk (show some W1.heap.size ≠ v.ownBlock from fun e => by have := own_lt HI.out.own _ e.symm; omega)
    have N81 := Aside0.mk (show some (W1.heap.size + 1) ≠ v.ownBlock from fun e => by have := own_lt HI.out.own _ e.symm; omega)
    go_region_held3 (fun w' => w'.cell? ⟨b, 6, none⟩ = some (.slice (some ⟨kb, ko, none⟩) q.f2.length c) ∧ w'.cell? ⟨kb, ko, none⟩ = some (.int .i64 k.f0) ∧ w'.cell? ⟨kb, ko + 1, none⟩ = some (.int .i64 k.f1.f0) ∧ w'.cell? ⟨kb, ko + 2, none⟩ = some (.int .i64 k.f1.f1) ∧ w'.cell? ⟨kb, ko + 3, none⟩ = some (.bool k.f1.f2.f0) ∧ w'.cell? ⟨kb, ko + 4, none⟩ = some (.int .i64 k.f1.f2.f1) ∧ w'.cell? ⟨kb, ko + 5, none⟩ = some (.string k.f1.f2.f2) ∧ w'.cell? ⟨kb, ko + 6, none⟩ = some (.slice A6 k.f2.length c6))
    ((repeat' apply And.intro) <;> first | assumption | go_keep)
      (first
        | (refine app_step_any (W := (W1.drew.alloc (.cells #[.string ⟨#[40]⟩] 9)).alloc (.cells #[.string wd] 9)) (by rfl) _ _ (by rfl) v _ [(⟨#[40]⟩ : ByteArray)] 1 W1.heap.size rfl (by omega) (by rfl) (by rfl) (HI.out.below (below_alloc (below_alloc (below_drew (Below.refl _ _)) _) _)) ((Below.block (below_alloc (Below.refl _ _) _) _ (by simp)).trans (heap_alloc_new W1.drew _)) HL1.out ?_; intro v1 w3 hIx hKx; (have K3 := Aside0.mk (hKx.blk ((Below.block (below_alloc (below_alloc (below_drew (Below.refl _ _)) _) _) _ (blk_lt KB.out)).trans KB.out) (by decide))); (have HK3 := Aside0.mk (HK.out.trans ((K9.below (below_alloc (below_alloc (below_drew (Below.refl _ _)) _) _)).trans hKx))); (have HI3 := Aside0.mk hIx); (have L8 := Aside0.mk (hKx.far (k := W1.heap.size + 1) (blk_new_at _ _ _ (by simp)) (N81.out))); (have N8 := Aside0.mk (hKx.ne (k := W1.heap.size + 1) (by simp) N81.out)); (have c6' := (blk_cell K3.out 6).trans rfl); (have f0 := F0.out w3 HI3.out.bel); (have f1 := F1.out w3 HI3.out.bel); (have f2 := F2.out w3 HI3.out.bel); (have f3 := F3.out w3 HI3.out.bel); (have f4 := F4.out w3 HI3.out.bel); (have f5 := F5.out w3 HI3.out.bel); (have f6 := F6.out w3 HI3.out.bel); clear hKx hIx)
        | (refine app_step_any (W := (W1.drew.alloc (.cells #[.string wd] 9)).alloc (.cells #[.string ⟨#[40]⟩] 9)) (by rfl) _ _ (by rfl) v _ [(⟨#[40]⟩ : ByteArray)] 1 (W1.heap.size + 1) rfl (by omega) (by rfl) (by rfl) (HI.out.below (below_alloc (below_alloc (below_drew (Below.refl _ _)) _) _)) (blk_new_at _ _ _ (by simp)) HL1.out ?_; intro v1 w3 hIx hKx; (have K3 := Aside0.mk (hKx.blk ((Below.block (below_alloc (below_alloc (below_drew (Below.refl _ _)) _) _) _ (blk_lt KB.out)).trans KB.out) (by decide))); (have HK3 := Aside0.mk (HK.out.trans ((K9.below (below_alloc (below_alloc (below_drew (Below.refl _ _)) _) _)).trans hKx))); (have HI3 := Aside0.mk hIx); (have L8 := Aside0.mk (hKx.far (k := W1.heap.size) ((Below.block (below_alloc (Below.refl _ _) _) _ (by simp)).trans (heap_alloc_new W1.drew _)) (N80.out))); (have N8 := Aside0.mk (hKx.ne (k := W1.heap.size) (by simp; omega) N80.out)); (have c6' := (blk_cell K3.out 6).trans rfl); (have f0 := F0.out w3 HI3.out.bel); (have f1 := F1.out w3 HI3.out.bel); (have f2 := F2.out w3 HI3.out.bel); (have f3 := F3.out w3 HI3.out.bel); (have f4 := F4.out w3 HI3.out.bel); (have f5 := F5.out w3 HI3.out.bel); (have f6 := F6.out w3 HI3.out.bel); clear hKx hIx)
        | (refine app_step_any (W := W1.drew.alloc (.cells #[.string ⟨#[40]⟩] 9)) (by rfl) _ _ (by rfl) v _ [(⟨#[40]⟩ : ByteArray)] 1 W1.heap.size rfl (by omega) (by rfl) (by rfl) (HI.out.below (below_alloc (below_drew (Below.refl _ _)) _)) (heap_alloc_new W1.drew _) HL1.out ?_; intro v1 w3 hIx hKx; (have K3 := Aside0.mk (hKx.blk ((Below.block (below_alloc (below_drew (Below.refl _ _)) _) _ (blk_lt KB.out)).trans KB.out) (by decide))); (have HK3 := Aside0.mk (HK.out.trans ((K9.below (below_alloc (below_drew (Below.refl _ _)) _)).trans hKx))); (have HI3 := Aside0.mk hIx); (have c6' := (blk_cell K3.out 6).trans rfl); (have f0 := F0.out w3 HI3.out.bel); (have f1 := F1.out w3 HI3.out.bel); (have f2 := F2.out w3 HI3.out.bel); (have f3 := F3.out w3 HI3.out.bel); (have f4 := F4.out w3 HI3.out.bel); (have f5 := F5.out w3 HI3.out.bel); (have f6 := F6.out w3 HI3.out.bel); clear hKx hIx)
        | (go_at_call 26; refine (IHk.out v1 (w3.alloc (.cells #[.string wd] 9)) (HI3.out.below (below_alloc (Below.refl _ _) _))).mono ?_; rintro e w4 ⟨v2, rfl, hIx, hKx⟩; (have K4 := Aside0.mk (hKx.blk ((Below.block (below_alloc (Below.refl _ _) _) _ (blk_lt K3.out)).trans K3.out) (by decide))); (have HK4 := Aside0.mk (HK3.out.trans ((K9.below (below_alloc (Below.refl _ _) _)).trans hKx))); (have HI4 := Aside0.mk hIx); (have L8 := Aside0.mk (hKx.far (k := w3.heap.size) (heap_alloc_new _ _) (fun e => by have := own_lt HI3.out.own _ e.symm; omega))); (have c6' := (blk_cell K4.out 6).trans rfl); (have f0 := F0.out w4 HI4.out.bel); (have f1 := F1.out w4 HI4.out.bel); (have f2 := F2.out w4 HI4.out.bel); (have f3 := F3.out w4 HI4.out.bel); (have f4 := F4.out w4 HI4.out.bel); (have f5 := F5.out w4 HI4.out.bel); (have f6 := F6.out w4 HI4.out.bel); clear hKx hIx)
        | (go_at_call 26; refine (IHk.out v1 w3 (HI3.out.below (Below.refl _ _))).mono ?_; rintro e w4 ⟨v2, rfl, hIx, hKx⟩; (have K4 := Aside0.mk (hKx.blk ((Below.block (Below.refl _ _) _ (blk_lt K3.out)).trans K3.out) (by decide))); (have HK4 := Aside0.mk (HK3.out.trans ((K9.below (Below.refl _ _)).trans hKx))); (have HI4 := Aside0.mk hIx); (have L8 := Aside0.mk (hKx.far L8.out N8.out)); (have c6' := (blk_cell K4.out 6).trans rfl); (have f0 := F0.out w4 HI4.out.bel); (have f1 := F1.out w4 HI4.out.bel); (have f2 := F2.out w4 HI4.out.bel); (have f3 := F3.out w4 HI4.out.bel); (have f4 := F4.out w4 HI4.out.bel); (have f5 := F5.out w4 HI4.out.bel); (have f6 := F6.out w4 HI4.out.bel); clear hKx hIx)
        | (go_at_call 26; refine (IHk.out v1 w3 (HI3.out.below (Below.refl _ _))).mono ?_; rintro e w4 ⟨v2, rfl, hIx, hKx⟩; (have K4 := Aside0.mk (hKx.blk ((Below.block (Below.refl _ _) _ (blk_lt K3.out)).trans K3.out) (by decide))); (have HK4 := Aside0.mk (HK3.out.trans ((K9.below (Below.refl _ _)).trans hKx))); (have HI4 := Aside0.mk hIx); (have c6' := (blk_cell K4.out 6).trans rfl); (have f0 := F0.out w4 HI4.out.bel); (have f1 := F1.out w4 HI4.out.bel); (have f2 := F2.out w4 HI4.out.bel); (have f3 := F3.out w4 HI4.out.bel); (have f4 := F4.out w4 HI4.out.bel); (have f5 := F5.out w4 HI4.out.bel); (have f6 := F6.out w4 HI4.out.bel); clear hKx hIx)
        | (refine app_step_any (W := w4.alloc (.cells #[.string wd] 9)) (by rfl) _ _ (by rfl) v2 _ [wd] 1 w4.heap.size rfl (by omega) (by rfl) (by rfl) (HI4.out.below (below_alloc (Below.refl _ _) _)) (heap_alloc_new _ _) HL3.out ?_; intro v3 w5 hIx hKx; (have K5 := Aside0.mk (hKx.blk ((Below.block (below_alloc (Below.refl _ _) _) _ (blk_lt K4.out)).trans K4.out) (by decide))); (have HK5 := Aside0.mk (HK4.out.trans ((K9.below (below_alloc (Below.refl _ _) _)).trans hKx))); (have HI5 := Aside0.mk hIx); (have c6' := (blk_cell K5.out 6).trans rfl); (have f0 := F0.out w5 HI5.out.bel); (have f1 := F1.out w5 HI5.out.bel); (have f2 := F2.out w5 HI5.out.bel); (have f3 := F3.out w5 HI5.out.bel); (have f4 := F4.out w5 HI5.out.bel); (have f5 := F5.out w5 HI5.out.bel); (have f6 := F6.out w5 HI5.out.bel); clear hKx hIx)
        | (refine app_step_any (W := w4) (by rfl) _ _ (by rfl) v2 _ [wd] 1 _ rfl (by omega) (by rfl) (by rfl) (HI4.out.below (Below.refl _ _)) L8.out HL3.out ?_; intro v3 w5 hIx hKx; (have K5 := Aside0.mk (hKx.blk ((Below.block (Below.refl _ _) _ (blk_lt K4.out)).trans K4.out) (by decide))); (have HK5 := Aside0.mk (HK4.out.trans ((K9.below (Below.refl _ _)).trans hKx))); (have HI5 := Aside0.mk hIx); (have c6' := (blk_cell K5.out 6).trans rfl); (have f0 := F0.out w5 HI5.out.bel); (have f1 := F1.out w5 HI5.out.bel); (have f2 := F2.out w5 HI5.out.bel); (have f3 := F3.out w5 HI5.out.bel); (have f4 := F4.out w5 HI5.out.bel); (have f5 := F5.out w5 HI5.out.bel); (have f6 := F6.out w5 HI5.out.bel); clear hKx hIx))
  all_goals
    have g0 := G0.out w5 HI5.out.bel
    have g1 := G1.out w5 HI5.out.bel
    have g2 := G2.out w5 HI5.out.bel
    have g3 := G3.out w5 HI5.out.bel
    have g4 := G4.out w5 HI5.out.bel
    have g5 := G5.out w5 HI5.out.bel
    have g6 := G6.out w5 HI5.out.bel
    clear f0 f1 f2 f3 f4 f5 f6
    go_wp2_with fail
    refine (IHl.out v3 _ HI5.out).mono ?_
    rintro e w6 ⟨v4, rfl, hI6, hK6⟩
    have HI6 := Aside0.mk hI6
    have HK6 := Aside0.mk (HK5.out.trans hK6)
    clear hI6 hK6
    go_wp2_with (at_builtin; refine app_list (by rfl) _ _ (by rfl) v4 _ [(⟨#[41]⟩ : ByteArray)] 1 rfl (by omega) (by rfl) (by rfl) HI6.out HL5.out ?_; intro v5 w7 hI7 hK7)
    go_ret
    exact ⟨_, rfl, by rw [← HWS.out]; simpa [List.append_assoc] using hI7, HK6.out.trans hK7⟩

theorem words.calls (left : Nat) : WordsSaid left := by
  induction left with
  | zero => intro w0 q ws A c v xs w hG hC hc hI hl h; cases h
  | succ n ih =>
    intro w0 q ws A c v xs w hG hC hc hI hl h
    by_cases h1 : q.f0 = 1
    · exact words_ask n w0 q ws A c v xs w hG hI hl h h1
    · by_cases h4 : q.f0 = 4
      · exact words_not n ih w0 q ws A c v xs w hG hC hI hl h h4
      · exact words_two n ih w0 q ws A c v xs w hG hC hI hl h h1 h4
end Go.Proofs.YtglcajijmkianaaDoor.A
