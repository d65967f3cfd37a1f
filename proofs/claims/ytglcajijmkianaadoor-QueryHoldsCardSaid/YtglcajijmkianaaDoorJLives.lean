/- The law's lives: one query's text, its parse, its rows: true in every world that holds strconv's table and errors. · QueryNot's walk: of rows just those that don't hold hold for not; of two queries and means both, or at least one. -/
import Derived.Test.YtglcajijmkianaaDoorAx0
import Derived.Test.YtglcajijmkianaaDoorHParse
import Derived.Test.YtglcajijmkianaaDoorHShow
import Derived.Test.YtglcajijmkianaaDoorHHolds
import Derived.Test.YtglcajijmkianaaDoorJPure
namespace Go.Proofs.YtglcajijmkianaaDoor.A
open Go.RowKit Go.Proofs.YtglcajijmkianaaDoorW.PrintWords Go.Proofs.YtglcajijmkianaaDoorW.PrintLast Go.Proofs.YtglcajijmkianaaDoorW.PrintMore
set_option linter.unusedVariables false
set_option linter.unusedSimpArgs false

def T0 : ByteArray := ⟨#[40, 32, 48, 32, 62, 61, 32, 53, 32, 97, 110, 100, 32, 40, 32, 110, 111, 116, 32, 49, 32, 110, 117, 108, 108, 32, 41, 32, 41]⟩
def Q0 : S28 := ⟨2, z25, [⟨1, ⟨3, 0, ⟨false, 5, ⟨#[]⟩⟩⟩, []⟩, ⟨4, z25, [⟨1, ⟨4, 1, z23⟩, []⟩]⟩]⟩
theorem parse_T0 : parseF T0 = some (Q0, 0) := by kernel_rfl
theorem show_Q0 : showF Q0 = some (T0, 0) := by kernel_rfl
theorem holds_5 : query_Holds.f 10 Q0.f0 Q0.f1.f0 Q0.f1.f1 Q0.f1.f2.f0 Q0.f1.f2.f1 Q0.f1.f2.f2 Q0.f2 [⟨false, 5, ⟨#[]⟩⟩, z23] = some true := by kernel_rfl
theorem holds_4 : query_Holds.f 10 Q0.f0 Q0.f1.f0 Q0.f1.f1 Q0.f1.f2.f0 Q0.f1.f2.f1 Q0.f1.f2.f2 Q0.f2 [⟨false, 4, ⟨#[]⟩⟩, z23] = some false := by kernel_rfl
/-- Two values in a block. -/
theorem vals_two {W : World} {b : Nat} {n : Int} {t : TypeId} (hb : W.heap[b]? = some (.cells #[.bool false, .int .i64 n, .string ⟨#[]⟩, .bool false, .int .i64 0, .string ⟨#[]⟩] t (0, 0))) : Kd.C k23 W (some ⟨b, 0, none⟩) 2 [⟨false, n, ⟨#[]⟩⟩, z23] := by
  refine ⟨rfl, by simp, fun _ => ⟨_, rfl, fun j p hj => ?_⟩⟩
  have hsz : k23.sz = 3 := rfl
  match j with
  | 0 =>
    have hp : (⟨false, n, ⟨#[]⟩⟩ : S23) = p := by simpa using hj
    subst hp
    refine ⟨_, rfl, k23_mk W _, fun i u hu => ?_⟩
    rw [Nat.zero_mul, Nat.zero_add, Go.Proofs.YtglcajijmkianaaDoorW.PrintWords.add_plain, blk_cell hb]
    have hi : i < 3 := by
      have := (List.getElem?_eq_some_iff.1 hu).1
      simpa using this
    match i, hi with
    | 0, _ => simpa using hu
    | 1, _ => simpa using hu
    | 2, _ => simpa using hu
  | 1 =>
    have hp : z23 = p := by simpa using hj
    subst hp
    refine ⟨_, rfl, k23_mk W _, fun i u hu => ?_⟩
    rw [hsz, Nat.one_mul, Go.Proofs.YtglcajijmkianaaDoorW.PrintWords.add_plain, blk_cell hb]
    have hi : i < 3 := by
      have := (List.getElem?_eq_some_iff.1 hu).1
      simpa using this
    match i, hi with
    | 0, _ => simpa [z23] using hu
    | 1, _ => simpa [z23] using hu
    | 2, _ => simpa [z23] using hu
  | j + 2 => simp at hj

set_option maxRecDepth 100000 in
set_option maxHeartbeats 8000000 in
theorem lives.calls (w : World) (hG : Globs w) : Calls Tryd.prog 9 #[] w fun e w' => e = .returned (.bool true) ∧ Below w.heap.size w w' := by
  have hu28 := Tryd.underlying28
  have hu23 := Tryd.underlying23
  have HG := Aside0.mk hG
  clear hG
  go_enter Tryd.func9, Tryd.ntmps9
  go_wp2_with fail
  refine (parse.calls T0 (Q0, 0) w HG.out parse_T0).mono ?_
  rintro e w1 ⟨A, c, rfl, hc, hC, hb⟩
  have HC := Aside0.mk hC
  have HL := Aside0.mk hc
  have HB := Aside0.mk hb
  clear hC hb hc
  go_wp2_with fail
  refine (show.calls Q0 A c (T0, 0) _ (HG.out.below (HB.out.trans ((below_alloc (Below.refl _ _) _).mono HB.out.size))) (Kd.C_below HC.out (below_alloc (Below.refl _ _) _)) HL.out show_Q0).mono ?_
  rintro e w2 ⟨rfl, hb2⟩
  have HB2 := Aside0.mk (HB.out.trans (((below_alloc (Below.refl w1.heap.size w1) (.cells (qcells Q0 A c) 28)).trans (hb2.mono (by simp))).mono HB.out.size))
  have K2 := Aside0.mk ((hb2.block w1.heap.size (by simp)).trans (blk_new w1 (.cells (qcells Q0 A c) 28)))
  have HC2 := Aside0.mk (Kd.C_below (Kd.C_below HC.out (below_alloc (Below.refl _ _) (.cells (qcells Q0 A c) 28))) hb2)
  clear hb2 HB HC HG
  generalize w1.heap.size = b at K2 ⊢
  have f0 : w2.cell? ⟨b, 0, none⟩ = some (.int .i64 Q0.f0) := (blk_cell K2.out 0).trans rfl
  have f1 : w2.cell? ⟨b, 1, none⟩ = some (.int .i64 Q0.f1.f0) := (blk_cell K2.out 1).trans rfl
  have f2 : w2.cell? ⟨b, 2, none⟩ = some (.int .i64 Q0.f1.f1) := (blk_cell K2.out 2).trans rfl
  have f3 : w2.cell? ⟨b, 3, none⟩ = some (.bool Q0.f1.f2.f0) := (blk_cell K2.out 3).trans rfl
  have f4 : w2.cell? ⟨b, 4, none⟩ = some (.int .i64 Q0.f1.f2.f1) := (blk_cell K2.out 4).trans rfl
  have f5 : w2.cell? ⟨b, 5, none⟩ = some (.string Q0.f1.f2.f2) := (blk_cell K2.out 5).trans rfl
  have f6 : w2.cell? ⟨b, 6, none⟩ = some (.slice A Q0.f2.length c) := (blk_cell K2.out 6).trans rfl
  have hT : T0.toList = [40, 32, 48, 32, 62, 61, 32, 53, 32, 97, 110, 100, 32, 40, 32, 110, 111, 116, 32, 49, 32, 110, 117, 108, 108, 32, 41, 32, 41] := by unfold T0; rw [ByteArray.toList_eq]
  go_wp2_with fail
  refine (query_Holds.calls 10 Q0.f0 Q0.f1.f0 Q0.f1.f1 Q0.f1.f2.f0 Q0.f1.f2.f1 Q0.f1.f2.f2 A c Q0.f2 (some ⟨w2.heap.size, 0, none⟩) 2 [⟨false, 5, ⟨#[]⟩⟩, z23] true _ (Kd.C_below HC2.out (below_alloc (Below.refl _ _) _)) HL.out (vals_two (t := 23) (blk_new w2 _)) (Nat.le_refl _) holds_5).mono ?_
  rintro e w3 ⟨rfl, hb3⟩
  have HB3 := Aside0.mk (HB2.out.trans (((below_alloc (Below.refl w2.heap.size w2) (.cells #[.bool false, .int .i64 5, .string ⟨#[]⟩, .bool false, .int .i64 0, .string ⟨#[]⟩] 23)).trans (hb3.mono (by simp))).mono HB2.out.size))
  have K3 := Aside0.mk ((hb3.block b (by have := blk_lt K2.out; simp; omega)).trans (((below_alloc (Below.refl w2.heap.size w2) (.cells #[.bool false, .int .i64 5, .string ⟨#[]⟩, .bool false, .int .i64 0, .string ⟨#[]⟩] 23)).block b (blk_lt K2.out)).trans K2.out))
  have HC3 := Aside0.mk (Kd.C_below (Kd.C_below HC2.out (below_alloc (Below.refl _ _) (.cells #[.bool false, .int .i64 5, .string ⟨#[]⟩, .bool false, .int .i64 0, .string ⟨#[]⟩] 23))) hb3)
  clear hb3 HB2 HC2 K2 hT f0 f1 f2 f3 f4 f5 f6
  have g0 : w3.cell? ⟨b, 0, none⟩ = some (.int .i64 Q0.f0) := (blk_cell K3.out 0).trans rfl
  have g1 : w3.cell? ⟨b, 1, none⟩ = some (.int .i64 Q0.f1.f0) := (blk_cell K3.out 1).trans rfl
  have g2 : w3.cell? ⟨b, 2, none⟩ = some (.int .i64 Q0.f1.f1) := (blk_cell K3.out 2).trans rfl
  have g3 : w3.cell? ⟨b, 3, none⟩ = some (.bool Q0.f1.f2.f0) := (blk_cell K3.out 3).trans rfl
  have g4 : w3.cell? ⟨b, 4, none⟩ = some (.int .i64 Q0.f1.f2.f1) := (blk_cell K3.out 4).trans rfl
  have g5 : w3.cell? ⟨b, 5, none⟩ = some (.string Q0.f1.f2.f2) := (blk_cell K3.out 5).trans rfl
  have g6 : w3.cell? ⟨b, 6, none⟩ = some (.slice A Q0.f2.length c) := (blk_cell K3.out 6).trans rfl
  go_wp2_with fail
  refine (query_Holds.calls 10 Q0.f0 Q0.f1.f0 Q0.f1.f1 Q0.f1.f2.f0 Q0.f1.f2.f1 Q0.f1.f2.f2 A c Q0.f2 (some ⟨w3.heap.size, 0, none⟩) 2 [⟨false, 4, ⟨#[]⟩⟩, z23] false _ (Kd.C_below HC3.out (below_alloc (Below.refl _ _) _)) HL.out (vals_two (t := 23) (blk_new w3 _)) (Nat.le_refl _) holds_4).mono ?_
  rintro e w4 ⟨rfl, hb4⟩
  have HB4 := Aside0.mk (HB3.out.trans (((below_alloc (Below.refl w3.heap.size w3) (.cells #[.bool false, .int .i64 4, .string ⟨#[]⟩, .bool false, .int .i64 0, .string ⟨#[]⟩] 23)).trans (hb4.mono (by simp))).mono HB3.out.size))
  clear hb4
  go_wp2_with fail
  go_ret
  exact ⟨rfl, HB4.out⟩
end Go.Proofs.YtglcajijmkianaaDoor.A
namespace Go.Proofs.YtglcajijmkianaaDoor.A
open Go.RowKit Go.Proofs.YtglcajijmkianaaDoorW.PrintWords Go.Proofs.YtglcajijmkianaaDoorW.PrintLast Go.Proofs.YtglcajijmkianaaDoorW.PrintMore
set_option linter.unusedVariables false
set_option linter.unusedSimpArgs false

theorem row_one {W : World} {b : Nat} {k : S28} {A : Option Addr} {c : Nat} {t : TypeId} (hb : W.heap[b]? = some (.cells (qcells k A c) t (0, 0))) (hl : k.f2.length ≤ c) (hR : Kd.C k28 W A k.f2.length k.f2) : Kd.C k28 W (some ⟨b, 0, none⟩) 1 [k] := by
  refine ⟨rfl, by simp, fun _ => ⟨_, rfl, fun j p hj => ?_⟩⟩
  cases j with
  | zero =>
    have hp : k = p := by simpa using hj
    subst hp
    refine ⟨_, rfl, k28_mk W k hl hR, fun i u hu => ?_⟩
    rw [Nat.zero_mul, Nat.zero_add, Go.Proofs.YtglcajijmkianaaDoorW.PrintWords.add_plain, blk_cell hb i]
    simpa using hu
  | succ j => simp at hj
theorem row_two {W : World} {b : Nat} {k m : S28} {A B : Option Addr} {c d : Nat} {t : TypeId} (hb : W.heap[b]? = some (.cells (qcells k A c ++ qcells m B d) t (0, 0))) (hl : k.f2.length ≤ c) (hR : Kd.C k28 W A k.f2.length k.f2) (hm : m.f2.length ≤ d) (hM : Kd.C k28 W B m.f2.length m.f2) : Kd.C k28 W (some ⟨b, 0, none⟩) 2 [k, m] := by
  refine ⟨rfl, by simp, fun _ => ⟨_, rfl, fun j p hj => ?_⟩⟩
  have hsz : k28.sz = 7 := rfl
  match j with
  | 0 =>
    have hp : k = p := by simpa using hj
    subst hp
    refine ⟨_, rfl, k28_mk W k hl hR, fun i u hu => ?_⟩
    rw [Nat.zero_mul, Nat.zero_add, Go.Proofs.YtglcajijmkianaaDoorW.PrintWords.add_plain, blk_cell hb i]
    have hi : i < 7 := by
      have := (List.getElem?_eq_some_iff.1 hu).1
      simpa using this
    simp only [Nat.zero_add, Array.getElem?_append, qcells]
    rw [if_pos (by simpa using hi)]
    simpa using hu
  | 1 =>
    have hp : m = p := by simpa using hj
    subst hp
    refine ⟨_, rfl, k28_mk W m hm hM, fun i u hu => ?_⟩
    rw [hsz, Nat.one_mul, Go.Proofs.YtglcajijmkianaaDoorW.PrintWords.add_plain, blk_cell hb]
    simp only [Nat.zero_add, Array.getElem?_append, qcells]
    rw [if_neg (by simp)]
    simpa using hu
  | j + 2 => simp at hj

theorem AK_then {W w' : World} {b : Nat} {o : Obj} (h : Aside0 (W.heap[b]? = some o)) (hb : Below W.heap.size W w') : Aside0 (w'.heap[b]? = some o) := ⟨(hb.block b (blk_lt h.out)).trans h.out⟩
theorem AK_drew {W : World} {b : Nat} {o : Obj} (h : Aside0 (W.heap[b]? = some o)) : Aside0 (W.drew.heap[b]? = some o) := ⟨h.out⟩
theorem LeO.le {g : Nat → Option Bool} (h : ∀ k, LeO (g k) (g (k + 1))) {k m : Nat} (hm : k ≤ m) {b : Bool} (hk : g k = some b) : g m = some b := at_rounds h hm hk
set_option maxRecDepth 100000 in
set_option maxHeartbeats 8000000 in
theorem QueryNot.walk (p q : S28) (l : List S23) (n m : Nat) (hp : Gd28 n p) (hq : Gd28 m q) (A0 A1 A2 : Option Addr) (c0 c1 c2 : Nat) (w : World) (hG : Globs w) (hC0 : Kd.C k28 w A0 p.f2.length p.f2) (hc0 : p.f2.length ≤ c0) (hC1 : Kd.C k28 w A1 q.f2.length q.f2) (hc1 : q.f2.length ≤ c1) (hC2 : Kd.C k23 w A2 l.length l) (hc2 : l.length ≤ c2) :
    Calls Tryd.prog 6 #[.agg #[.int .i64 p.f0, .int .i64 p.f1.f0, .int .i64 p.f1.f1, .bool p.f1.f2.f0, .int .i64 p.f1.f2.f1, .string p.f1.f2.f2, .slice A0 p.f2.length c0], .agg #[.int .i64 q.f0, .int .i64 q.f1.f0, .int .i64 q.f1.f1, .bool q.f1.f2.f0, .int .i64 q.f1.f2.f1, .string q.f1.f2.f2, .slice A1 q.f2.length c1], .slice A2 l.length c2] w fun e w' => e = .returned (.bool true) ∧ Below w.heap.size w w' := by
  obtain ⟨K, hK⟩ := holds_ev (l := l) n p hp
  obtain ⟨L, hL⟩ := holds_ev (l := l) m q hq
  generalize hV n l p = a at hK
  generalize hV m l q = b at hL
  obtain ⟨k, hk1, hk2⟩ : ∃ k, holdsAt k l p = some a ∧ holdsAt k l q = some b := ⟨K + L, hK _ (by omega), hL _ (by omega)⟩
  clear hK hL hp hq
  have hn : query_Holds.f (k + 1) 4 0 0 false 0 ⟨#[]⟩ [p] l = some (!a) := by
    rw [Holds_succ]; simp [notO, hk1]
  have ha : query_Holds.f (k + 1) 2 0 0 false 0 ⟨#[]⟩ [p, q] l = some (a && b) := by
    rw [Holds_succ]; simp only [everyO, anyO, notO, hk1, hk2]; cases a <;> cases b <;> rfl
  have ho : query_Holds.f (k + 1) 3 0 0 false 0 ⟨#[]⟩ [p, q] l = some (a || b) := by
    rw [Holds_succ]; simp only [anyO, hk1, hk2]; cases a <;> cases b <;> rfl
  have HP := Aside0.mk (fun (W : World) (hW : Below w.heap.size w W) => query_Holds.calls k p.f0 p.f1.f0 p.f1.f1 p.f1.f2.f0 p.f1.f2.f1 p.f1.f2.f2 A0 c0 p.f2 A2 c2 l a W (Kd.C_below hC0 hW) hc0 (Kd.C_below hC2 hW) hc2 hk1)
  have HQ := Aside0.mk (fun (W : World) (hW : Below w.heap.size w W) => query_Holds.calls k q.f0 q.f1.f0 q.f1.f1 q.f1.f2.f0 q.f1.f2.f1 q.f1.f2.f2 A1 c1 q.f2 A2 c2 l b W (Kd.C_below hC1 hW) hc1 (Kd.C_below hC2 hW) hc2 hk2)
  have HN := Aside0.mk (fun (W : World) (g : Nat) (hW : Below w.heap.size w W) (hb : W.heap[g]? = some (.cells (qcells p A0 c0) 28 (0, 0))) => query_Holds.calls (k + 1) 4 0 0 false 0 ⟨#[]⟩ (some ⟨g, 0, none⟩) 1 [p] A2 c2 l (!a) W (row_one hb hc0 (Kd.C_below hC0 hW)) (Nat.le_refl _) (Kd.C_below hC2 hW) hc2 hn)
  have HA := Aside0.mk (fun (W : World) (g : Nat) (hW : Below w.heap.size w W) (hb : W.heap[g]? = some (.cells (qcells p A0 c0 ++ qcells q A1 c1) 28 (0, 0))) => query_Holds.calls (k + 1) 2 0 0 false 0 ⟨#[]⟩ (some ⟨g, 0, none⟩) 2 [p, q] A2 c2 l (a && b) W (row_two hb hc0 (Kd.C_below hC0 hW) hc1 (Kd.C_below hC1 hW)) (Nat.le_refl _) (Kd.C_below hC2 hW) hc2 ha)
  have HO := Aside0.mk (fun (W : World) (g : Nat) (hW : Below w.heap.size w W) (hb : W.heap[g]? = some (.cells (qcells p A0 c0 ++ qcells q A1 c1) 28 (0, 0))) => query_Holds.calls (k + 1) 3 0 0 false 0 ⟨#[]⟩ (some ⟨g, 0, none⟩) 2 [p, q] A2 c2 l (a || b) W (row_two hb hc0 (Kd.C_below hC0 hW) hc1 (Kd.C_below hC1 hW)) (Nat.le_refl _) (Kd.C_below hC2 hW) hc2 ho)
  have HL := Aside0.mk (fun (W : World) (hW : Below w.heap.size w W) => lives.calls W (hG.below hW))
  have hu28 := Tryd.underlying28
  clear hC0 hC1 hC2 hn ha ho hk1 hk2 hG
  go_enter Tryd.func6, Tryd.ntmps6
  go_wp2_with fail
  refine (HL.out _ (below_alloc (below_alloc (Below.refl _ _) _) _)).mono ?_
  rintro e w1 ⟨rfl, hb1⟩
  have HB := Aside0.mk ((below_alloc (below_alloc (Below.refl w.heap.size w) (Obj.cells (qcells p A0 c0) 28)) (Obj.cells (qcells q A1 c1) 28)).trans (hb1.mono (by simp; omega)))
  have K3 := Aside0.mk ((hb1.block w.heap.size (by simp; omega)).trans ((below_alloc (Below.refl _ (w.alloc (Obj.cells (qcells p A0 c0) 28))) (Obj.cells (qcells q A1 c1) 28)).block w.heap.size (by simp) |>.trans (blk_new w _)))
  have K4 := Aside0.mk ((hb1.block (w.heap.size + 1) (by simp)).trans (blk_new_at (w.alloc (Obj.cells (qcells p A0 c0) 28)) (Obj.cells (qcells q A1 c1) 28) _ (by simp)))
  clear hb1 HL
  have tok1 : Aside0 True := ⟨trivial⟩
  have x0_0 : w1.cell? ⟨w.heap.size, 0, none⟩ = some (.int .i64 p.f0) := (blk_cell K3.out 0).trans rfl
  have x0_1 : w1.cell? ⟨w.heap.size, 1, none⟩ = some (.int .i64 p.f1.f0) := (blk_cell K3.out 1).trans rfl
  have x0_2 : w1.cell? ⟨w.heap.size, 2, none⟩ = some (.int .i64 p.f1.f1) := (blk_cell K3.out 2).trans rfl
  have x0_3 : w1.cell? ⟨w.heap.size, 3, none⟩ = some (.bool p.f1.f2.f0) := (blk_cell K3.out 3).trans rfl
  have x0_4 : w1.cell? ⟨w.heap.size, 4, none⟩ = some (.int .i64 p.f1.f2.f1) := (blk_cell K3.out 4).trans rfl
  have x0_5 : w1.cell? ⟨w.heap.size, 5, none⟩ = some (.string p.f1.f2.f2) := (blk_cell K3.out 5).trans rfl
  have x0_6 : w1.cell? ⟨w.heap.size, 6, none⟩ = some (.slice A0 p.f2.length c0) := (blk_cell K3.out 6).trans rfl
  have x1_0 : w1.cell? ⟨w.heap.size + 1, 0, none⟩ = some (.int .i64 q.f0) := (blk_cell K4.out 0).trans rfl
  have x1_1 : w1.cell? ⟨w.heap.size + 1, 1, none⟩ = some (.int .i64 q.f1.f0) := (blk_cell K4.out 1).trans rfl
  have x1_2 : w1.cell? ⟨w.heap.size + 1, 2, none⟩ = some (.int .i64 q.f1.f1) := (blk_cell K4.out 2).trans rfl
  have x1_3 : w1.cell? ⟨w.heap.size + 1, 3, none⟩ = some (.bool q.f1.f2.f0) := (blk_cell K4.out 3).trans rfl
  have x1_4 : w1.cell? ⟨w.heap.size + 1, 4, none⟩ = some (.int .i64 q.f1.f2.f1) := (blk_cell K4.out 4).trans rfl
  have x1_5 : w1.cell? ⟨w.heap.size + 1, 5, none⟩ = some (.string q.f1.f2.f2) := (blk_cell K4.out 5).trans rfl
  have x1_6 : w1.cell? ⟨w.heap.size + 1, 6, none⟩ = some (.slice A1 q.f2.length c1) := (blk_cell K4.out 6).trans rfl
  go_wp2_with fail
  go_region_held3 (fun w' => w'.cell? ⟨w.heap.size, 0, none⟩ = some (.int .i64 p.f0) ∧ w'.cell? ⟨w.heap.size, 1, none⟩ = some (.int .i64 p.f1.f0) ∧ w'.cell? ⟨w.heap.size, 2, none⟩ = some (.int .i64 p.f1.f1) ∧ w'.cell? ⟨w.heap.size, 3, none⟩ = some (.bool p.f1.f2.f0) ∧ w'.cell? ⟨w.heap.size, 4, none⟩ = some (.int .i64 p.f1.f2.f1) ∧ w'.cell? ⟨w.heap.size, 5, none⟩ = some (.string p.f1.f2.f2) ∧ w'.cell? ⟨w.heap.size, 6, none⟩ = some (.slice A0 p.f2.length c0) ∧ w'.cell? ⟨w.heap.size + 1, 0, none⟩ = some (.int .i64 q.f0) ∧ w'.cell? ⟨w.heap.size + 1, 1, none⟩ = some (.int .i64 q.f1.f0) ∧ w'.cell? ⟨w.heap.size + 1, 2, none⟩ = some (.int .i64 q.f1.f1) ∧ w'.cell? ⟨w.heap.size + 1, 3, none⟩ = some (.bool q.f1.f2.f0) ∧ w'.cell? ⟨w.heap.size + 1, 4, none⟩ = some (.int .i64 q.f1.f2.f1) ∧ w'.cell? ⟨w.heap.size + 1, 5, none⟩ = some (.string q.f1.f2.f2) ∧ w'.cell? ⟨w.heap.size + 1, 6, none⟩ = some (.slice A1 q.f2.length c1) ∧ Aside0 (w'.heap[w.heap.size]? = some (.cells (qcells p A0 c0) 28 (0, 0))) ∧ Aside0 (w'.heap[w.heap.size + 1]? = some (.cells (qcells q A1 c1) 28 (0, 0))) ∧ Aside0 (Below w.heap.size w w'))
    ((repeat' apply And.intro) <;> (first | assumption | exact pw_cell_below hb' (by assumption) | exact AB_then (by assumption) hb' | exact AB_drew (by assumption) | exact AK_then (by assumption) hb' | exact AK_drew (by assumption) | go_keep))
    (first
      | (go_at_call 17; refine (HQ.out _ HB2.out).mono ?_; rintro e w3 ⟨rfl, hb'⟩; (have HB3 := Aside0.mk (HB2.out.trans (hb'.mono HB2.out.size))); (have K33 := Aside0.mk ((hb'.block w.heap.size (blk_lt K32.out)).trans K32.out)); (have K43 := Aside0.mk ((hb'.block (w.heap.size + 1) (blk_lt K42.out)).trans K42.out)); (have z0_0 : w3.cell? ⟨w.heap.size, 0, none⟩ = some (.int .i64 p.f0) := (blk_cell K33.out 0).trans rfl); (have z0_1 : w3.cell? ⟨w.heap.size, 1, none⟩ = some (.int .i64 p.f1.f0) := (blk_cell K33.out 1).trans rfl); (have z0_2 : w3.cell? ⟨w.heap.size, 2, none⟩ = some (.int .i64 p.f1.f1) := (blk_cell K33.out 2).trans rfl); (have z0_3 : w3.cell? ⟨w.heap.size, 3, none⟩ = some (.bool p.f1.f2.f0) := (blk_cell K33.out 3).trans rfl); (have z0_4 : w3.cell? ⟨w.heap.size, 4, none⟩ = some (.int .i64 p.f1.f2.f1) := (blk_cell K33.out 4).trans rfl); (have z0_5 : w3.cell? ⟨w.heap.size, 5, none⟩ = some (.string p.f1.f2.f2) := (blk_cell K33.out 5).trans rfl); (have z0_6 : w3.cell? ⟨w.heap.size, 6, none⟩ = some (.slice A0 p.f2.length c0) := (blk_cell K33.out 6).trans rfl); (have z1_0 : w3.cell? ⟨w.heap.size + 1, 0, none⟩ = some (.int .i64 q.f0) := (blk_cell K43.out 0).trans rfl); (have z1_1 : w3.cell? ⟨w.heap.size + 1, 1, none⟩ = some (.int .i64 q.f1.f0) := (blk_cell K43.out 1).trans rfl); (have z1_2 : w3.cell? ⟨w.heap.size + 1, 2, none⟩ = some (.int .i64 q.f1.f1) := (blk_cell K43.out 2).trans rfl); (have z1_3 : w3.cell? ⟨w.heap.size + 1, 3, none⟩ = some (.bool q.f1.f2.f0) := (blk_cell K43.out 3).trans rfl); (have z1_4 : w3.cell? ⟨w.heap.size + 1, 4, none⟩ = some (.int .i64 q.f1.f2.f1) := (blk_cell K43.out 4).trans rfl); (have z1_5 : w3.cell? ⟨w.heap.size + 1, 5, none⟩ = some (.string q.f1.f2.f2) := (blk_cell K43.out 5).trans rfl); (have z1_6 : w3.cell? ⟨w.heap.size + 1, 6, none⟩ = some (.slice A1 q.f2.length c1) := (blk_cell K43.out 6).trans rfl))
      | (go_at_call 17; refine (HP.out _ (below_drew HB.out)).mono ?_; rintro e w2 ⟨rfl, hb'⟩; (have HB2 := Aside0.mk ((below_drew HB.out).trans (hb'.mono (below_drew HB.out).size))); (have K32 := Aside0.mk ((hb'.block w.heap.size (blk_lt K3.out)).trans K3.out)); (have K42 := Aside0.mk ((hb'.block (w.heap.size + 1) (blk_lt K4.out)).trans K4.out)); (have y0_0 : w2.cell? ⟨w.heap.size, 0, none⟩ = some (.int .i64 p.f0) := (blk_cell K32.out 0).trans rfl); (have y0_1 : w2.cell? ⟨w.heap.size, 1, none⟩ = some (.int .i64 p.f1.f0) := (blk_cell K32.out 1).trans rfl); (have y0_2 : w2.cell? ⟨w.heap.size, 2, none⟩ = some (.int .i64 p.f1.f1) := (blk_cell K32.out 2).trans rfl); (have y0_3 : w2.cell? ⟨w.heap.size, 3, none⟩ = some (.bool p.f1.f2.f0) := (blk_cell K32.out 3).trans rfl); (have y0_4 : w2.cell? ⟨w.heap.size, 4, none⟩ = some (.int .i64 p.f1.f2.f1) := (blk_cell K32.out 4).trans rfl); (have y0_5 : w2.cell? ⟨w.heap.size, 5, none⟩ = some (.string p.f1.f2.f2) := (blk_cell K32.out 5).trans rfl); (have y0_6 : w2.cell? ⟨w.heap.size, 6, none⟩ = some (.slice A0 p.f2.length c0) := (blk_cell K32.out 6).trans rfl); (have y1_0 : w2.cell? ⟨w.heap.size + 1, 0, none⟩ = some (.int .i64 q.f0) := (blk_cell K42.out 0).trans rfl); (have y1_1 : w2.cell? ⟨w.heap.size + 1, 1, none⟩ = some (.int .i64 q.f1.f0) := (blk_cell K42.out 1).trans rfl); (have y1_2 : w2.cell? ⟨w.heap.size + 1, 2, none⟩ = some (.int .i64 q.f1.f1) := (blk_cell K42.out 2).trans rfl); (have y1_3 : w2.cell? ⟨w.heap.size + 1, 3, none⟩ = some (.bool q.f1.f2.f0) := (blk_cell K42.out 3).trans rfl); (have y1_4 : w2.cell? ⟨w.heap.size + 1, 4, none⟩ = some (.int .i64 q.f1.f2.f1) := (blk_cell K42.out 4).trans rfl); (have y1_5 : w2.cell? ⟨w.heap.size + 1, 5, none⟩ = some (.string q.f1.f2.f2) := (blk_cell K42.out 5).trans rfl); (have y1_6 : w2.cell? ⟨w.heap.size + 1, 6, none⟩ = some (.slice A1 q.f2.length c1) := (blk_cell K42.out 6).trans rfl)))
  clear tok1 HP HQ HB HB2 K3 K4 K32 K42
  rename_i hS
  clear hS
  clear x0_0 x0_1 x0_2 x0_3 x0_4 x0_5 x0_6 x1_0 x1_1 x1_2 x1_3 x1_4 x1_5 x1_6 y0_0 y0_1 y0_2 y0_3 y0_4 y0_5 y0_6 y1_0 y1_1 y1_2 y1_3 y1_4 y1_5 y1_6
  have v0_0 := fun o => pw_cell_below (below_alloc (Below.refl w3.heap.size w3) o) z0_0
  have v0_1 := fun o => pw_cell_below (below_alloc (Below.refl w3.heap.size w3) o) z0_1
  have v0_2 := fun o => pw_cell_below (below_alloc (Below.refl w3.heap.size w3) o) z0_2
  have v0_3 := fun o => pw_cell_below (below_alloc (Below.refl w3.heap.size w3) o) z0_3
  have v0_4 := fun o => pw_cell_below (below_alloc (Below.refl w3.heap.size w3) o) z0_4
  have v0_5 := fun o => pw_cell_below (below_alloc (Below.refl w3.heap.size w3) o) z0_5
  have v0_6 := fun o => pw_cell_below (below_alloc (Below.refl w3.heap.size w3) o) z0_6
  go_wp2_with fail
  refine (HN.out _ (w3.heap.size + 1) (HB3.out.trans ((below_alloc (below_alloc (Below.refl _ _) _) _).mono HB3.out.size)) (blk_new_at (w3.alloc (.cells (qcells p A0 c0 ++ qcells q A1 c1) 28)) _ _ (by simp))).mono ?_
  rintro e w4 ⟨rfl, hb4⟩
  have HB4 := Aside0.mk (HB3.out.trans (((below_alloc (below_alloc (Below.refl w3.heap.size w3) (.cells (qcells p A0 c0 ++ qcells q A1 c1) 28)) (.cells (qcells p A0 c0) 28)).trans (hb4.mono (by simp; omega))).mono HB3.out.size))
  have K5 := Aside0.mk ((hb4.block w3.heap.size (by simp; omega)).trans ((below_alloc (Below.refl _ (w3.alloc (.cells (qcells p A0 c0 ++ qcells q A1 c1) 28))) (.cells (qcells p A0 c0) 28)).block w3.heap.size (by simp) |>.trans (blk_new w3 _)))
  clear hb4
  generalize w3.heap.size = g at K5 ⊢
  clear HB3 HN K33 K43
  go_wp2_with fail
  refine (HA.out _ g HB4.out K5.out).mono ?_
  rintro e w5 ⟨rfl, hb5⟩
  have HB5 := Aside0.mk (HB4.out.trans (hb5.mono HB4.out.size))
  have K6 := Aside0.mk ((hb5.block g (blk_lt K5.out)).trans K5.out)
  clear hb5
  go_wp2_with fail
  refine (HO.out _ g HB5.out K6.out).mono ?_
  rintro e w6 ⟨rfl, hb6⟩
  have HB6 := Aside0.mk (HB5.out.trans (hb6.mono HB5.out.size))
  clear hb6
  cases a <;> cases b <;> go_wp2_with fail
  all_goals
    go_ret
    exact ⟨rfl, HB6.out⟩
end Go.Proofs.YtglcajijmkianaaDoor.A
