/- A query's words: the queries with others within. -/
import Derived.Test.YtglcajijmkianaaDoorAx0
import Derived.Test.YtglcajijmkianaaDoorAx2
import Derived.Test.YtglcajijmkianaaDoorHWords
namespace Go.Proofs.YtglcajijmkianaaDoor.A
open Go.RowKit Go.Proofs.YtglcajijmkianaaDoorW.PrintWords Go.Proofs.YtglcajijmkianaaDoorW.PrintLast Go.Proofs.YtglcajijmkianaaDoorW.PrintMore
open Go.Shelf Go.Lib Go.Sort
set_option linter.unusedVariables false
set_option linter.unusedSimpArgs false

abbrev qcells (q : S28) (A : Option Addr) (c : Nat) : Array Value := #[.int .i64 q.f0, .int .i64 q.f1.f0, .int .i64 q.f1.f1, .bool q.f1.f2.f0, .int .i64 q.f1.f2.f1, .string q.f1.f2.f2, .slice A q.f2.length c]
/-- The cells of a query's kid. -/
theorem kid_cells {w : World} {A : Option Addr} {xs : List S28} (h : Kd.C k28 w A xs.length xs) {i : Nat} {k : S28} (hi : xs[i]? = some k) :
    ∃ kb ko A6 c6, A = some ⟨kb, ko, none⟩ ∧ w.cell? ⟨kb, ko + i * 7, none⟩ = some (.int .i64 k.f0) ∧ w.cell? ⟨kb, ko + i * 7 + 1, none⟩ = some (.int .i64 k.f1.f0) ∧ w.cell? ⟨kb, ko + i * 7 + 2, none⟩ = some (.int .i64 k.f1.f1) ∧ w.cell? ⟨kb, ko + i * 7 + 3, none⟩ = some (.bool k.f1.f2.f0) ∧ w.cell? ⟨kb, ko + i * 7 + 4, none⟩ = some (.int .i64 k.f1.f2.f1) ∧ w.cell? ⟨kb, ko + i * 7 + 5, none⟩ = some (.string k.f1.f2.f2) ∧ w.cell? ⟨kb, ko + i * 7 + 6, none⟩ = some (.slice A6 k.f2.length c6) ∧ k.f2.length ≤ c6 ∧ Kd.C k28 w A6 k.f2.length k.f2 := by
  have hlt : i < xs.length := (List.getElem?_eq_some_iff.mp hi).1
  obtain ⟨ad, e, hall⟩ := h.2.2 (by omega)
  obtain ⟨cs, hl, hK, hc⟩ := hall i k hi
  obtain ⟨A6, c6, rfl, l6, g6⟩ := k28_open (show k28.K w k cs from hK)
  have hsz : k28.sz = 7 := rfl
  have ead : ad = ⟨ad.block, ad.off, none⟩ := by
    obtain ⟨x0, h0⟩ : ∃ x0, xs[0]? = some x0 := ⟨_, List.getElem?_eq_getElem (by omega)⟩
    obtain ⟨cs0, hl0, hK0, hc0⟩ := hall 0 x0 h0
    obtain ⟨A0, c0, rfl, _, _⟩ := k28_open (show k28.K w x0 cs0 from hK0)
    have f0 := hc0 0 _ rfl
    have ea : ad.add (0 * k28.sz + 0) = ad := by simp [Addr.add]
    rw [ea] at f0
    exact spot_none f0
  have hq : ∀ j u, ([.int .i64 k.f0, .int .i64 k.f1.f0, .int .i64 k.f1.f1, .bool k.f1.f2.f0, .int .i64 k.f1.f2.f1, .string k.f1.f2.f2, .slice A6 k.f2.length c6] : List Value)[j]? = some u → w.cell? ⟨ad.block, ad.off + i * 7 + j, none⟩ = some u := by
    intro j u hu
    have := hc j u hu
    rw [hsz, ead, add_plain'] at this
    rw [Nat.add_assoc]
    exact this
  exact ⟨ad.block, ad.off, A6, c6, by rw [← ead]; exact e, hq 0 _ rfl, hq 1 _ rfl, hq 2 _ rfl, hq 3 _ rfl, hq 4 _ rfl, hq 5 _ rfl, hq 6 _ rfl, l6, g6⟩

set_option maxRecDepth 100000 in
set_option maxHeartbeats 8000000 in
theorem words_not (left : Nat) (IH : WordsSaid left) (w0 : World) (q : S28) (ws : List ByteArray) (A : Option Addr) (c : Nat) (v : Value) (xs : List ByteArray) (w : World) (hG : Globs w0) (hC : Kd.C k28 w0 A q.f2.length q.f2) (hI : WS w0 w v xs) (hl : (xs.length + ws.length) * 16 ≤ 140737488355328) (h : wordsO (left + 1) q = some ws) (h4 : q.f0 = 4) :
    Calls Tryd.prog 26 #[v, .agg #[.int .i64 q.f0, .int .i64 q.f1.f0, .int .i64 q.f1.f1, .bool q.f1.f2.f0, .int .i64 q.f1.f2.f1, .string q.f1.f2.f2, .slice A q.f2.length c]] w fun e w' => ∃ v', e = .returned v' ∧ WS w0 w' v' (xs ++ ws) ∧ K9 w v w' v' := by
  unfold wordsO at h
  rw [if_neg (by omega), if_pos h4] at h
  split at h
  case h_2 => cases h
  rename_i _ k rest hk
  obtain ⟨us, hus, hws⟩ := Option.map_eq_some_iff.mp h
  obtain ⟨kb, ko, A6, c6, rfl, f0, f1, f2, f3, f4, f5, f6, l6, g6⟩ := kid_cells hC (i := 0) (k := k) (by rw [hk]; rfl)
  simp only [Nat.zero_mul, Nat.add_zero] at f0 f1 f2 f3 f4 f5 f6
  have hn : 0 < q.f2.length := by rw [hk]; simp
  have hu28 := Tryd.underlying28
  have hu25 := Tryd.underlying25
  have hu23 := Tryd.underlying23
  have hu39 := Tryd.underlying39
  have e1 : (q.f0 == 1) = false := by simp [h4]
  have e4 : (q.f0 == 4) = true := by simp [h4]
  have HI := Aside0.mk (hI.below (below_alloc (Below.refl _ _) (Obj.cells (qcells q (some ⟨kb, ko, none⟩) c) 28)))
  have HK := Aside0.mk (K9.below (v := v) (below_alloc (Below.refl w.heap.size w) (Obj.cells (qcells q (some ⟨kb, ko, none⟩) c) 28)))
  have KB := Aside0.mk (blk_new w (Obj.cells (qcells q (some ⟨kb, ko, none⟩) c) 28))
  have HL := Aside0.mk hl
  have HWS := Aside0.mk hws
  have L1 : (xs.length + [(⟨#[40]⟩ : ByteArray), ⟨#[110, 111, 116]⟩].length) * 16 ≤ 140737488355328 := bound1 (zs := us ++ [(⟨#[41]⟩ : ByteArray)]) (by rw [← List.append_assoc, hws]; exact hl)
  have L2 : ((xs ++ [(⟨#[40]⟩ : ByteArray), ⟨#[110, 111, 116]⟩]).length + us.length) * 16 ≤ 140737488355328 := bound1 (zs := [(⟨#[41]⟩ : ByteArray)]) (bound2 (ys := [(⟨#[40]⟩ : ByteArray), ⟨#[110, 111, 116]⟩]) (by rw [← List.append_assoc, hws]; exact hl))
  have L3 : ((xs ++ [(⟨#[40]⟩ : ByteArray), ⟨#[110, 111, 116]⟩] ++ us).length + [(⟨#[41]⟩ : ByteArray)].length) * 16 ≤ 140737488355328 := bound2 (bound2 (ys := [(⟨#[40]⟩ : ByteArray), ⟨#[110, 111, 116]⟩]) (zs := us ++ [(⟨#[41]⟩ : ByteArray)]) (by rw [← List.append_assoc, hws]; exact hl))
  have HL1 := Aside0.mk L1
  have HL2 := Aside0.mk L2
  have HL3 := Aside0.mk L3
  have IHk := Aside0.mk (fun v1 W hW => IH w0 k us A6 c6 v1 (xs ++ [(⟨#[40]⟩ : ByteArray), ⟨#[110, 111, 116]⟩]) W hG g6 l6 hW L2 hus)
  have F0 := Aside0.mk (fun W (hb : Below w0.heap.size w0 W) => pw_cell_below hb f0)
  have F1 := Aside0.mk (fun W (hb : Below w0.heap.size w0 W) => pw_cell_below hb f1)
  have F2 := Aside0.mk (fun W (hb : Below w0.heap.size w0 W) => pw_cell_below hb f2)
  have F3 := Aside0.mk (fun W (hb : Below w0.heap.size w0 W) => pw_cell_below hb f3)
  have F4 := Aside0.mk (fun W (hb : Below w0.heap.size w0 W) => pw_cell_below hb f4)
  have F5 := Aside0.mk (fun W (hb : Below w0.heap.size w0 W) => pw_cell_below hb f5)
  have F6 := Aside0.mk (fun W (hb : Below w0.heap.size w0 W) => pw_cell_below hb f6)
  clear hC hI hl h h4 hk hus hws f0 f1 f2 f3 f4 f5 f6 L1 L2 L3 IH hG g6
  go_enter Tryd.func26, Tryd.ntmps26
  go_wp2_with fail
  generalize w.alloc _ = W1 at HI HK KB ⊢
  generalize hbb : w.heap.size = b at KB ⊢
  have c6' := (blk_cell KB.out 6).trans rfl
  have f0 := F0.out W1 HI.out.bel
  have f1 := F1.out W1 HI.out.bel
  have f2 := F2.out W1 HI.out.bel
  have f3 := F3.out W1 HI.out.bel
  have f4 := F4.out W1 HI.out.bel
  have f5 := F5.out W1 HI.out.bel
  have f6 := F6.out W1 HI.out.bel
  clear hbb
  have N80 := Aside0.mk (show some W1.heap.size ≠ v.ownBlock from fun e => by have := own_lt HI.out.own _ e.symm; omega)
  have N81 := Aside0.mk (show some (W1.heap.size + 1) ≠ v.ownBlock from fun e => by have := own_lt HI.out.own _ e.symm; omega)
  go_region_held3 (fun w' => w'.cell? ⟨b, 6, none⟩ = some (.slice (some ⟨kb, ko, none⟩) q.f2.length c) ∧ w'.cell? ⟨kb, ko, none⟩ = some (.int .i64 k.f0) ∧ w'.cell? ⟨kb, ko + 1, none⟩ = some (.int .i64 k.f1.f0) ∧ w'.cell? ⟨kb, ko + 2, none⟩ = some (.int .i64 k.f1.f1) ∧ w'.cell? ⟨kb, ko + 3, none⟩ = some (.bool k.f1.f2.f0) ∧ w'.cell? ⟨kb, ko + 4, none⟩ = some (.int .i64 k.f1.f2.f1) ∧ w'.cell? ⟨kb, ko + 5, none⟩ = some (.string k.f1.f2.f2) ∧ w'.cell? ⟨kb, ko + 6, none⟩ = some (.slice A6 k.f2.length c6))
    ((repeat' apply And.intro) <;> first | assumption | go_keep)
    (first
      | (refine app_step_any (W := (W1.drew.alloc (.cells #[.string ⟨#[40]⟩, .string ⟨#[110, 111, 116]⟩] 9)).alloc (.cells #[.string ⟨#[41]⟩] 9)) (by rfl) _ _ (by rfl) v xs [(⟨#[40]⟩ : ByteArray), ⟨#[110, 111, 116]⟩] 2 W1.heap.size rfl (by omega) (by rfl) (by rfl) (HI.out.below (below_alloc (below_alloc (below_drew (Below.refl _ _)) _) _)) ((Below.block (below_alloc (Below.refl _ _) _) _ (by simp)).trans (heap_alloc_new W1.drew _)) HL1.out ?_; intro v1 w3 hI3 hK3; (have K3 := Aside0.mk (hK3.blk ((Below.block (below_alloc (below_alloc (below_drew (Below.refl _ _)) _) _) _ (blk_lt KB.out)).trans KB.out) (by decide))); (have HK3 := Aside0.mk (HK.out.trans ((K9.below (below_alloc (below_alloc (below_drew (Below.refl _ _)) _) _)).trans hK3))); (have HI3 := Aside0.mk hI3); (have L8 := Aside0.mk (hK3.far (k := W1.heap.size + 1) (blk_new_at _ _ _ (by simp)) (N81.out))); (have N8 := Aside0.mk (hK3.ne (k := W1.heap.size + 1) (by simp) N81.out)); (have c6' := (blk_cell K3.out 6).trans rfl); (have f0 := F0.out w3 HI3.out.bel); (have f1 := F1.out w3 HI3.out.bel); (have f2 := F2.out w3 HI3.out.bel); (have f3 := F3.out w3 HI3.out.bel); (have f4 := F4.out w3 HI3.out.bel); (have f5 := F5.out w3 HI3.out.bel); (have f6 := F6.out w3 HI3.out.bel); clear hK3 hI3)
      | (refine app_step_any (W := (W1.drew.alloc (.cells #[.string ⟨#[41]⟩] 9)).alloc (.cells #[.string ⟨#[40]⟩, .string ⟨#[110, 111, 116]⟩] 9)) (by rfl) _ _ (by rfl) v xs [(⟨#[40]⟩ : ByteArray), ⟨#[110, 111, 116]⟩] 2 (W1.heap.size + 1) rfl (by omega) (by rfl) (by rfl) (HI.out.below (below_alloc (below_alloc (below_drew (Below.refl _ _)) _) _)) (blk_new_at _ _ _ (by simp)) HL1.out ?_; intro v1 w3 hI3 hK3; (have K3 := Aside0.mk (hK3.blk ((Below.block (below_alloc (below_alloc (below_drew (Below.refl _ _)) _) _) _ (blk_lt KB.out)).trans KB.out) (by decide))); (have HK3 := Aside0.mk (HK.out.trans ((K9.below (below_alloc (below_alloc (below_drew (Below.refl _ _)) _) _)).trans hK3))); (have HI3 := Aside0.mk hI3); (have L8 := Aside0.mk (hK3.far (k := W1.heap.size) ((Below.block (below_alloc (Below.refl _ _) _) _ (by simp)).trans (heap_alloc_new W1.drew _)) (N80.out))); (have N8 := Aside0.mk (hK3.ne (k := W1.heap.size) (by simp; omega) N80.out)); (have c6' := (blk_cell K3.out 6).trans rfl); (have f0 := F0.out w3 HI3.out.bel); (have f1 := F1.out w3 HI3.out.bel); (have f2 := F2.out w3 HI3.out.bel); (have f3 := F3.out w3 HI3.out.bel); (have f4 := F4.out w3 HI3.out.bel); (have f5 := F5.out w3 HI3.out.bel); (have f6 := F6.out w3 HI3.out.bel); clear hK3 hI3)
      | (refine app_step_any (W := W1.drew.alloc (.cells #[.string ⟨#[40]⟩, .string ⟨#[110, 111, 116]⟩] 9)) (by rfl) _ _ (by rfl) v xs [(⟨#[40]⟩ : ByteArray), ⟨#[110, 111, 116]⟩] 2 W1.heap.size rfl (by omega) (by rfl) (by rfl) (HI.out.below (below_alloc (below_drew (Below.refl _ _)) _)) (heap_alloc_new W1.drew _) HL1.out ?_; intro v1 w3 hI3 hK3; (have K3 := Aside0.mk (hK3.blk ((Below.block (below_alloc (below_drew (Below.refl _ _)) _) _ (blk_lt KB.out)).trans KB.out) (by decide))); (have HK3 := Aside0.mk (HK.out.trans ((K9.below (below_alloc (below_drew (Below.refl _ _)) _)).trans hK3))); (have HI3 := Aside0.mk hI3); (have c6' := (blk_cell K3.out 6).trans rfl); (have f0 := F0.out w3 HI3.out.bel); (have f1 := F1.out w3 HI3.out.bel); (have f2 := F2.out w3 HI3.out.bel); (have f3 := F3.out w3 HI3.out.bel); (have f4 := F4.out w3 HI3.out.bel); (have f5 := F5.out w3 HI3.out.bel); (have f6 := F6.out w3 HI3.out.bel); clear hK3 hI3)
      | (go_at_call 26; refine (IHk.out v1 (w3.alloc (.cells #[.string ⟨#[41]⟩] 9)) (HI3.out.below (below_alloc (Below.refl _ _) _))).mono ?_; rintro e w4 ⟨v2, rfl, hI4, hK4⟩; (have K4 := Aside0.mk (hK4.blk ((Below.block (below_alloc (Below.refl _ _) _) _ (blk_lt K3.out)).trans K3.out) (by decide))); (have HK4 := Aside0.mk (HK3.out.trans ((K9.below (below_alloc (Below.refl _ _) _)).trans hK4))); (have HI4 := Aside0.mk hI4); (have L8 := Aside0.mk (hK4.far (k := w3.heap.size) (heap_alloc_new _ _) (fun e => by have := own_lt HI3.out.own _ e.symm; omega))); (have N8 := Aside0.mk (hK4.ne (k := w3.heap.size) (by simp) (fun e => by have := own_lt HI3.out.own _ e.symm; omega))); (have c6' := (blk_cell K4.out 6).trans rfl); (have f0 := F0.out w4 HI4.out.bel); (have f1 := F1.out w4 HI4.out.bel); (have f2 := F2.out w4 HI4.out.bel); (have f3 := F3.out w4 HI4.out.bel); (have f4 := F4.out w4 HI4.out.bel); (have f5 := F5.out w4 HI4.out.bel); (have f6 := F6.out w4 HI4.out.bel); clear hK4 hI4)
      | (go_at_call 26; refine (IHk.out v1 w3 (HI3.out.below (Below.refl _ _))).mono ?_; rintro e w4 ⟨v2, rfl, hI4, hK4⟩; (have K4 := Aside0.mk (hK4.blk ((Below.block (Below.refl _ _) _ (blk_lt K3.out)).trans K3.out) (by decide))); (have HK4 := Aside0.mk (HK3.out.trans ((K9.below (Below.refl _ _)).trans hK4))); (have HI4 := Aside0.mk hI4); (have L8 := Aside0.mk (hK4.far L8.out N8.out)); (have c6' := (blk_cell K4.out 6).trans rfl); (have f0 := F0.out w4 HI4.out.bel); (have f1 := F1.out w4 HI4.out.bel); (have f2 := F2.out w4 HI4.out.bel); (have f3 := F3.out w4 HI4.out.bel); (have f4 := F4.out w4 HI4.out.bel); (have f5 := F5.out w4 HI4.out.bel); (have f6 := F6.out w4 HI4.out.bel); clear hK4 hI4)
      | (go_at_call 26; refine (IHk.out v1 w3 (HI3.out.below (Below.refl _ _))).mono ?_; rintro e w4 ⟨v2, rfl, hI4, hK4⟩; (have K4 := Aside0.mk (hK4.blk ((Below.block (Below.refl _ _) _ (blk_lt K3.out)).trans K3.out) (by decide))); (have HK4 := Aside0.mk (HK3.out.trans ((K9.below (Below.refl _ _)).trans hK4))); (have HI4 := Aside0.mk hI4); (have c6' := (blk_cell K4.out 6).trans rfl); (have f0 := F0.out w4 HI4.out.bel); (have f1 := F1.out w4 HI4.out.bel); (have f2 := F2.out w4 HI4.out.bel); (have f3 := F3.out w4 HI4.out.bel); (have f4 := F4.out w4 HI4.out.bel); (have f5 := F5.out w4 HI4.out.bel); (have f6 := F6.out w4 HI4.out.bel); clear hK4 hI4)
      | (refine app_step_any (W := w4.alloc (.cells #[.string ⟨#[41]⟩] 9)) (by rfl) _ _ (by rfl) v2 _ [(⟨#[41]⟩ : ByteArray)] 1 w4.heap.size rfl (by omega) (by rfl) (by rfl) (HI4.out.below (below_alloc (Below.refl _ _) _)) (heap_alloc_new _ _) HL3.out ?_; intro v3 w5 hI5 hK5; (have K5 := Aside0.mk (hK5.blk ((Below.block (below_alloc (Below.refl _ _) _) _ (blk_lt K4.out)).trans K4.out) (by decide))); (have HK5 := Aside0.mk (HK4.out.trans ((K9.below (below_alloc (Below.refl _ _) _)).trans hK5))); (have HI5 := Aside0.mk hI5); (have c6' := (blk_cell K5.out 6).trans rfl); (have f0 := F0.out w5 HI5.out.bel); (have f1 := F1.out w5 HI5.out.bel); (have f2 := F2.out w5 HI5.out.bel); (have f3 := F3.out w5 HI5.out.bel); (have f4 := F4.out w5 HI5.out.bel); (have f5 := F5.out w5 HI5.out.bel); (have f6 := F6.out w5 HI5.out.bel); clear hK5 hI5)
      | (refine app_step_any (W := w4) (by rfl) _ _ (by rfl) v2 _ [(⟨#[41]⟩ : ByteArray)] 1 _ rfl (by omega) (by rfl) (by rfl) (HI4.out.below (Below.refl _ _)) L8.out HL3.out ?_; intro v3 w5 hI5 hK5; (have K5 := Aside0.mk (hK5.blk ((Below.block (Below.refl _ _) _ (blk_lt K4.out)).trans K4.out) (by decide))); (have HK5 := Aside0.mk (HK4.out.trans ((K9.below (Below.refl _ _)).trans hK5))); (have HI5 := Aside0.mk hI5); (have c6' := (blk_cell K5.out 6).trans rfl); (have f0 := F0.out w5 HI5.out.bel); (have f1 := F1.out w5 HI5.out.bel); (have f2 := F2.out w5 HI5.out.bel); (have f3 := F3.out w5 HI5.out.bel); (have f4 := F4.out w5 HI5.out.bel); (have f5 := F5.out w5 HI5.out.bel); (have f6 := F6.out w5 HI5.out.bel); clear hK5 hI5))
  all_goals
    go_wp2_with fail
    go_ret
    exact ⟨_, rfl, by rw [← HWS.out]; simpa [List.append_assoc] using HI5.out, HK5.out⟩
end Go.Proofs.YtglcajijmkianaaDoor.A
