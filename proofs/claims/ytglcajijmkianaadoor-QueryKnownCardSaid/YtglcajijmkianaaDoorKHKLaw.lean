/- QueryKnown's walk: what may and what must hold, by zones, is what the document says. -/
import Derived.Test.YtglcajijmkianaaDoorKAx0
import Derived.Test.YtglcajijmkianaaDoorKAx15
import Derived.Test.YtglcajijmkianaaDoorKHPure3
import Derived.Test.YtglcajijmkianaaDoorKHLives
import Derived.Test.YtglcajijmkianaaDoorKHPure2
namespace Go.Proofs.YtglcajijmkianaaDoor.A
open Go.RowKit Go.Proofs.YtglcajijmkianaaDoorW.PrintWords Go.Proofs.YtglcajijmkianaaDoorW.PrintLast Go.Proofs.YtglcajijmkianaaDoorW.PrintMore
set_option linter.unusedVariables false
set_option linter.unusedSimpArgs false
set_option maxRecDepth 100000 in
set_option maxHeartbeats 16000000 in
theorem QueryKnown.walk (q : S28) (l : List S72) (n : Nat) (hq : Gd28 n q) (hgl : ∀ z ∈ l, Gd72 z) (A A1 : Option Addr) (c c1 : Nat) (w : World) (hG : Globs w) (hC : Kd.C k28 w A q.f2.length q.f2) (hc : q.f2.length ≤ c) (hC1 : Kd.C k72 w A1 l.length l) (hc1 : l.length ≤ c1) :
    Calls Tryd.prog 8 #[.agg #[.int .i64 q.f0, .int .i64 q.f1.f0, .int .i64 q.f1.f1, .bool q.f1.f2.f0, .int .i64 q.f1.f2.f1, .string q.f1.f2.f2, .slice A q.f2.length c], .slice A1 l.length c1] w fun e w' => e = .returned (.bool true) ∧ Below w.heap.size w w' := by
  obtain ⟨K1, h1⟩ := known_ev (l := l) n false q hq
  obtain ⟨K2, h2⟩ := known_ev (l := l) n true q hq
  obtain ⟨K3, h3⟩ := rknown_ev hgl n false q hq
  obtain ⟨K4, h4⟩ := rknown_ev hgl n true q hq
  have e1 := h1 (K1 + K2 + K3 + K4) (by omega)
  have e2 := h2 (K1 + K2 + K3 + K4) (by omega)
  have e3 := h3 (K1 + K2 + K3 + K4) (by omega)
  have e4 := h4 (K1 + K2 + K3 + K4) (by omega)
  simp only at e1 e2 e3 e4
  generalize K1 + K2 + K3 + K4 = k at e1 e2 e3 e4
  generalize kV n false l q = a at e1 e3
  generalize kV n true l q = b at e2 e4
  clear h1 h2 h3 h4 hq hgl
  have HM0 := Aside0.mk (fun (W : World) (hW : Below w.heap.size w W) => known.calls k false q A c A1 c1 l a W (Kd.C_below hC hW) hc (Kd.C_below hC1 hW) hc1 e1)
  have HM1 := Aside0.mk (fun (W : World) (hW : Below w.heap.size w W) => known.calls k true q A c A1 c1 l b W (Kd.C_below hC hW) hc (Kd.C_below hC1 hW) hc1 e2)
  unfold knownF at HM0 HM1
  simp only [if_true, Bool.false_eq_true, if_false] at HM0 HM1
  have HK0 := Aside0.mk (fun (W : World) (hW : Below w.heap.size w W) => tithebarnref23_Known.calls k _ _ _ _ _ _ A c q.f2 A1 c1 l false a W (Kd.C_below hC hW) hc (Kd.C_below hC1 hW) hc1 e3)
  have HK1 := Aside0.mk (fun (W : World) (hW : Below w.heap.size w W) => tithebarnref23_Known.calls k _ _ _ _ _ _ A c q.f2 A1 c1 l true b W (Kd.C_below hC hW) hc (Kd.C_below hC1 hW) hc1 e4)
  have HL := Aside0.mk (fun (W : World) (hW : Below w.heap.size w W) => lives.calls W (hG.below hW))
  have hu28 := Tryd.underlying28
  clear hC hC1 e1 e2 e3 e4 hG
  go_enter Tryd.func8, Tryd.ntmps8
  go_wp2_with fail
  have K0 := Aside0.mk (blk_new w (Obj.cells #[.int .i64 q.f0, .int .i64 q.f1.f0, .int .i64 q.f1.f1, .bool q.f1.f2.f0, .int .i64 q.f1.f2.f1, .string q.f1.f2.f2, .slice A q.f2.length c] 28))
  have HB := Aside0.mk (below_alloc (Below.refl w.heap.size w) (Obj.cells #[.int .i64 q.f0, .int .i64 q.f1.f0, .int .i64 q.f1.f1, .bool q.f1.f2.f0, .int .i64 q.f1.f2.f1, .string q.f1.f2.f2, .slice A q.f2.length c] 28))
  generalize w.alloc _ = W at K0 HB ⊢
  have z0 : W.cell? ⟨w.heap.size, 0, none⟩ = some (.int .i64 q.f0) := (blk_cell K0.out 0).trans rfl
  have z1 : W.cell? ⟨w.heap.size, 1, none⟩ = some (.int .i64 q.f1.f0) := (blk_cell K0.out 1).trans rfl
  have z2 : W.cell? ⟨w.heap.size, 2, none⟩ = some (.int .i64 q.f1.f1) := (blk_cell K0.out 2).trans rfl
  have z3 : W.cell? ⟨w.heap.size, 3, none⟩ = some (.bool q.f1.f2.f0) := (blk_cell K0.out 3).trans rfl
  have z4 : W.cell? ⟨w.heap.size, 4, none⟩ = some (.int .i64 q.f1.f2.f1) := (blk_cell K0.out 4).trans rfl
  have z5 : W.cell? ⟨w.heap.size, 5, none⟩ = some (.string q.f1.f2.f2) := (blk_cell K0.out 5).trans rfl
  have z6 : W.cell? ⟨w.heap.size, 6, none⟩ = some (.slice A q.f2.length c) := (blk_cell K0.out 6).trans rfl
  go_region_held3 (fun w' => w'.cell? ⟨w.heap.size, 0, none⟩ = some (.int .i64 q.f0) ∧ w'.cell? ⟨w.heap.size, 1, none⟩ = some (.int .i64 q.f1.f0) ∧ w'.cell? ⟨w.heap.size, 2, none⟩ = some (.int .i64 q.f1.f1) ∧ w'.cell? ⟨w.heap.size, 3, none⟩ = some (.bool q.f1.f2.f0) ∧ w'.cell? ⟨w.heap.size, 4, none⟩ = some (.int .i64 q.f1.f2.f1) ∧ w'.cell? ⟨w.heap.size, 5, none⟩ = some (.string q.f1.f2.f2) ∧ w'.cell? ⟨w.heap.size, 6, none⟩ = some (.slice A q.f2.length c) ∧ Aside0 (Below w.heap.size w w'))
    ((repeat' apply And.intro) <;> (first | assumption | exact pw_cell_below hb' (by assumption) | exact AB_then (by assumption) hb' | exact AB_drew (by assumption) | go_keep))
    (first
      | (go_at_call 22; refine (HK1.out _ HB4.out).mono ?_; rintro e w5 ⟨rfl, hb'⟩; (have HB5 := Aside0.mk ((HB4.out).trans (hb'.mono (HB4.out).size))); (have K5 := Aside0.mk ((hb'.block w.heap.size (blk_lt K4.out)).trans K4.out)); (have x0 : w5.cell? ⟨w.heap.size, 0, none⟩ = some (.int .i64 q.f0) := (blk_cell K5.out 0).trans rfl); (have x1 : w5.cell? ⟨w.heap.size, 1, none⟩ = some (.int .i64 q.f1.f0) := (blk_cell K5.out 1).trans rfl); (have x2 : w5.cell? ⟨w.heap.size, 2, none⟩ = some (.int .i64 q.f1.f1) := (blk_cell K5.out 2).trans rfl); (have x3 : w5.cell? ⟨w.heap.size, 3, none⟩ = some (.bool q.f1.f2.f0) := (blk_cell K5.out 3).trans rfl); (have x4 : w5.cell? ⟨w.heap.size, 4, none⟩ = some (.int .i64 q.f1.f2.f1) := (blk_cell K5.out 4).trans rfl); (have x5 : w5.cell? ⟨w.heap.size, 5, none⟩ = some (.string q.f1.f2.f2) := (blk_cell K5.out 5).trans rfl); (have x6 : w5.cell? ⟨w.heap.size, 6, none⟩ = some (.slice A q.f2.length c) := (blk_cell K5.out 6).trans rfl))
      | (go_at_call 23; refine (HM1.out _ HB3.out).mono ?_; rintro e w4 ⟨rfl, hb'⟩; (have HB4 := Aside0.mk ((HB3.out).trans (hb'.mono (HB3.out).size))); (have K4 := Aside0.mk ((hb'.block w.heap.size (blk_lt K3.out)).trans K3.out)); (have e0 : w4.cell? ⟨w.heap.size, 0, none⟩ = some (.int .i64 q.f0) := (blk_cell K4.out 0).trans rfl); (have e1 : w4.cell? ⟨w.heap.size, 1, none⟩ = some (.int .i64 q.f1.f0) := (blk_cell K4.out 1).trans rfl); (have e2 : w4.cell? ⟨w.heap.size, 2, none⟩ = some (.int .i64 q.f1.f1) := (blk_cell K4.out 2).trans rfl); (have e3 : w4.cell? ⟨w.heap.size, 3, none⟩ = some (.bool q.f1.f2.f0) := (blk_cell K4.out 3).trans rfl); (have e4 : w4.cell? ⟨w.heap.size, 4, none⟩ = some (.int .i64 q.f1.f2.f1) := (blk_cell K4.out 4).trans rfl); (have e5 : w4.cell? ⟨w.heap.size, 5, none⟩ = some (.string q.f1.f2.f2) := (blk_cell K4.out 5).trans rfl); (have e6 : w4.cell? ⟨w.heap.size, 6, none⟩ = some (.slice A q.f2.length c) := (blk_cell K4.out 6).trans rfl))
      | (go_at_call 22; refine (HK0.out _ HB2.out).mono ?_; rintro e w3 ⟨rfl, hb'⟩; (have HB3 := Aside0.mk ((HB2.out).trans (hb'.mono (HB2.out).size))); (have K3 := Aside0.mk ((hb'.block w.heap.size (blk_lt K2.out)).trans K2.out)); (have d0 : w3.cell? ⟨w.heap.size, 0, none⟩ = some (.int .i64 q.f0) := (blk_cell K3.out 0).trans rfl); (have d1 : w3.cell? ⟨w.heap.size, 1, none⟩ = some (.int .i64 q.f1.f0) := (blk_cell K3.out 1).trans rfl); (have d2 : w3.cell? ⟨w.heap.size, 2, none⟩ = some (.int .i64 q.f1.f1) := (blk_cell K3.out 2).trans rfl); (have d3 : w3.cell? ⟨w.heap.size, 3, none⟩ = some (.bool q.f1.f2.f0) := (blk_cell K3.out 3).trans rfl); (have d4 : w3.cell? ⟨w.heap.size, 4, none⟩ = some (.int .i64 q.f1.f2.f1) := (blk_cell K3.out 4).trans rfl); (have d5 : w3.cell? ⟨w.heap.size, 5, none⟩ = some (.string q.f1.f2.f2) := (blk_cell K3.out 5).trans rfl); (have d6 : w3.cell? ⟨w.heap.size, 6, none⟩ = some (.slice A q.f2.length c) := (blk_cell K3.out 6).trans rfl))
      | (go_at_call 21; refine (HM0.out _ HB1.out).mono ?_; rintro e w2 ⟨rfl, hb'⟩; (have HB2 := Aside0.mk ((HB1.out).trans (hb'.mono (HB1.out).size))); (have K2 := Aside0.mk ((hb'.block w.heap.size (blk_lt K1.out)).trans K1.out)); (have c0 : w2.cell? ⟨w.heap.size, 0, none⟩ = some (.int .i64 q.f0) := (blk_cell K2.out 0).trans rfl); (have c1 : w2.cell? ⟨w.heap.size, 1, none⟩ = some (.int .i64 q.f1.f0) := (blk_cell K2.out 1).trans rfl); (have c2 : w2.cell? ⟨w.heap.size, 2, none⟩ = some (.int .i64 q.f1.f1) := (blk_cell K2.out 2).trans rfl); (have c3 : w2.cell? ⟨w.heap.size, 3, none⟩ = some (.bool q.f1.f2.f0) := (blk_cell K2.out 3).trans rfl); (have c4 : w2.cell? ⟨w.heap.size, 4, none⟩ = some (.int .i64 q.f1.f2.f1) := (blk_cell K2.out 4).trans rfl); (have c5 : w2.cell? ⟨w.heap.size, 5, none⟩ = some (.string q.f1.f2.f2) := (blk_cell K2.out 5).trans rfl); (have c6 : w2.cell? ⟨w.heap.size, 6, none⟩ = some (.slice A q.f2.length c) := (blk_cell K2.out 6).trans rfl))
      | (go_at_call 9; refine (HL.out _ (below_drew HB.out)).mono ?_; rintro e w1 ⟨rfl, hb'⟩; (have HB1 := Aside0.mk (((below_drew HB.out)).trans (hb'.mono ((below_drew HB.out)).size))); (have K1 := Aside0.mk ((hb'.block w.heap.size (blk_lt K0.out)).trans K0.out)); (have b0 : w1.cell? ⟨w.heap.size, 0, none⟩ = some (.int .i64 q.f0) := (blk_cell K1.out 0).trans rfl); (have b1 : w1.cell? ⟨w.heap.size, 1, none⟩ = some (.int .i64 q.f1.f0) := (blk_cell K1.out 1).trans rfl); (have b2 : w1.cell? ⟨w.heap.size, 2, none⟩ = some (.int .i64 q.f1.f1) := (blk_cell K1.out 2).trans rfl); (have b3 : w1.cell? ⟨w.heap.size, 3, none⟩ = some (.bool q.f1.f2.f0) := (blk_cell K1.out 3).trans rfl); (have b4 : w1.cell? ⟨w.heap.size, 4, none⟩ = some (.int .i64 q.f1.f2.f1) := (blk_cell K1.out 4).trans rfl); (have b5 : w1.cell? ⟨w.heap.size, 5, none⟩ = some (.string q.f1.f2.f2) := (blk_cell K1.out 5).trans rfl); (have b6 : w1.cell? ⟨w.heap.size, 6, none⟩ = some (.slice A q.f2.length c) := (blk_cell K1.out 6).trans rfl)))
  go_wp2
  go_ret
  exact ⟨by cases a <;> cases b <;> rfl, HB5.out⟩
end Go.Proofs.YtglcajijmkianaaDoor.A
