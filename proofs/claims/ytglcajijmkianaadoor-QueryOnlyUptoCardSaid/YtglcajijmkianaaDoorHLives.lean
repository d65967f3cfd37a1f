/- The law's lives: one query's text, its parse, its rows: true in every world that holds strconv's table and errors. -/
import Derived.Test.YtglcajijmkianaaDoorAx0
import Derived.Test.YtglcajijmkianaaDoorHParse
import Derived.Test.YtglcajijmkianaaDoorHShow
import Derived.Test.YtglcajijmkianaaDoorHHolds
namespace Go.Proofs.YtglcajijmkianaaDoor.A
open Go.RowKit Go.Proofs.YtglcajijmkianaaDoorW.PrintWords Go.Proofs.YtglcajijmkianaaDoorW.PrintLast Go.Proofs.YtglcajijmkianaaDoorW.PrintMore
set_option linter.unusedVariables false
set_option linter.unusedSimpArgs false

def T0 : ByteArray := ⟨#[40, 32, 48, 32, 62, 61, 32, 53, 32, 97, 110, 100, 32, 40, 32, 110, 111, 116, 32, 49, 32, 110, 117, 108, 108, 32, 41, 32, 41]⟩
def Q0 : S28 := ⟨2, z25, [⟨1, ⟨3, 0, ⟨false, 5, ⟨#[]⟩⟩⟩, []⟩, ⟨4, z25, [⟨1, ⟨4, 1, z23⟩, []⟩]⟩]⟩
theorem parse_T0 : parseF T0 = some (Q0, 0) := by kernel_rfl
theorem show_Q0 : showF Q0 = some (T0, 0) := by kernel_rfl
theorem holds_5 : query_Holds.f 10 Q0.f0 Q0.f1.f0 Q0.f1.f1 Q0.f1.f2.f0 Q0.f1.f2.f1 Q0.f1.f2.f2 Q0.f2 [⟨false, 5, ⟨#[]⟩⟩, z23] = some true := by kernel_rfl
theorem holds_4 : query_Holds.f 10 Q0.f0 Q0.f1.f0 Q0.f1.f1 Q0.f1.f2.f0 Q0.f1.f2.f1 Q0.f1.f2.f2 Q0.f2 [⟨false, 4, ⟨#[]⟩⟩, z23] = some false := by kernel_rfl
/-- Two values in a block. -/
theorem vals_two {W : World} {b : Nat} {n : Int} {t : TypeId} (hb : W.heap[b]? = some (.cells #[.bool false, .int .i64 n, .string ⟨#[]⟩, .bool false, .int .i64 0, .string ⟨#[]⟩] t (0, 0))) : Kd.C k23 W (some ⟨b, 0, none⟩) 2 [⟨false, n, ⟨#[]⟩⟩, z23] := by
  refine ⟨rfl, by simp, fun _ => ⟨_, rfl, fun j p hj => ?_⟩⟩
  have hsz : k23.sz = 3 := rfl
  match j with
  | 0 =>
    have hp : (⟨false, n, ⟨#[]⟩⟩ : S23) = p := by simpa using hj
    subst hp
    refine ⟨_, rfl, k23_mk W _, fun i u hu => ?_⟩
    rw [Nat.zero_mul, Nat.zero_add, Go.Proofs.YtglcajijmkianaaDoorW.PrintWords.add_plain, blk_cell hb]
    have hi : i < 3 := by
      have := (List.getElem?_eq_some_iff.1 hu).1
      simpa using this
    match i, hi with
    | 0, _ => simpa using hu
    | 1, _ => simpa using hu
    | 2, _ => simpa using hu
  | 1 =>
    have hp : z23 = p := by simpa using hj
    subst hp
    refine ⟨_, rfl, k23_mk W _, fun i u hu => ?_⟩
    rw [hsz, Nat.one_mul, Go.Proofs.YtglcajijmkianaaDoorW.PrintWords.add_plain, blk_cell hb]
    have hi : i < 3 := by
      have := (List.getElem?_eq_some_iff.1 hu).1
      simpa using this
    match i, hi with
    | 0, _ => simpa [z23] using hu
    | 1, _ => simpa [z23] using hu
    | 2, _ => simpa [z23] using hu
  | j + 2 => simp at hj

set_option maxRecDepth 100000 in
set_option maxHeartbeats 8000000 in
theorem lives.calls (w : World) (hG : Globs w) : Calls Tryd.prog 9 #[] w fun e w' => e = .returned (.bool true) ∧ Below w.heap.size w w' := by
  have hu28 := Tryd.underlying28
  have hu23 := Tryd.underlying23
  have HG := Aside0.mk hG
  clear hG
  go_enter Tryd.func9, Tryd.ntmps9
  go_wp2_with fail
  refine (parse.calls T0 (Q0, 0) w HG.out parse_T0).mono ?_
  rintro e w1 ⟨A, c, rfl, hc, hC, hb⟩
  have HC := Aside0.mk hC
  have HL := Aside0.mk hc
  have HB := Aside0.mk hb
  clear hC hb hc
  go_wp2_with fail
  refine (show.calls Q0 A c (T0, 0) _ (HG.out.below (HB.out.trans ((below_alloc (Below.refl _ _) _).mono HB.out.size))) (Kd.C_below HC.out (below_alloc (Below.refl _ _) _)) HL.out show_Q0).mono ?_
  rintro e w2 ⟨rfl, hb2⟩
  have HB2 := Aside0.mk (HB.out.trans (((below_alloc (Below.refl w1.heap.size w1) (.cells (qcells Q0 A c) 28)).trans (hb2.mono (by simp))).mono HB.out.size))
  have K2 := Aside0.mk ((hb2.block w1.heap.size (by simp)).trans (blk_new w1 (.cells (qcells Q0 A c) 28)))
  have HC2 := Aside0.mk (Kd.C_below (Kd.C_below HC.out (below_alloc (Below.refl _ _) (.cells (qcells Q0 A c) 28))) hb2)
  clear hb2 HB HC HG
  generalize w1.heap.size = b at K2 ⊢
  have f0 : w2.cell? ⟨b, 0, none⟩ = some (.int .i64 Q0.f0) := (blk_cell K2.out 0).trans rfl
  have f1 : w2.cell? ⟨b, 1, none⟩ = some (.int .i64 Q0.f1.f0) := (blk_cell K2.out 1).trans rfl
  have f2 : w2.cell? ⟨b, 2, none⟩ = some (.int .i64 Q0.f1.f1) := (blk_cell K2.out 2).trans rfl
  have f3 : w2.cell? ⟨b, 3, none⟩ = some (.bool Q0.f1.f2.f0) := (blk_cell K2.out 3).trans rfl
  have f4 : w2.cell? ⟨b, 4, none⟩ = some (.int .i64 Q0.f1.f2.f1) := (blk_cell K2.out 4).trans rfl
  have f5 : w2.cell? ⟨b, 5, none⟩ = some (.string Q0.f1.f2.f2) := (blk_cell K2.out 5).trans rfl
  have f6 : w2.cell? ⟨b, 6, none⟩ = some (.slice A Q0.f2.length c) := (blk_cell K2.out 6).trans rfl
  have hT : T0.toList = [40, 32, 48, 32, 62, 61, 32, 53, 32, 97, 110, 100, 32, 40, 32, 110, 111, 116, 32, 49, 32, 110, 117, 108, 108, 32, 41, 32, 41] := by unfold T0; rw [ByteArray.toList_eq]
  go_wp2_with fail
  refine (query_Holds.calls 10 Q0.f0 Q0.f1.f0 Q0.f1.f1 Q0.f1.f2.f0 Q0.f1.f2.f1 Q0.f1.f2.f2 A c Q0.f2 (some ⟨w2.heap.size, 0, none⟩) 2 [⟨false, 5, ⟨#[]⟩⟩, z23] true _ (Kd.C_below HC2.out (below_alloc (Below.refl _ _) _)) HL.out (vals_two (t := 23) (blk_new w2 _)) (Nat.le_refl _) holds_5).mono ?_
  rintro e w3 ⟨rfl, hb3⟩
  have HB3 := Aside0.mk (HB2.out.trans (((below_alloc (Below.refl w2.heap.size w2) (.cells #[.bool false, .int .i64 5, .string ⟨#[]⟩, .bool false, .int .i64 0, .string ⟨#[]⟩] 23)).trans (hb3.mono (by simp))).mono HB2.out.size))
  have K3 := Aside0.mk ((hb3.block b (by have := blk_lt K2.out; simp; omega)).trans (((below_alloc (Below.refl w2.heap.size w2) (.cells #[.bool false, .int .i64 5, .string ⟨#[]⟩, .bool false, .int .i64 0, .string ⟨#[]⟩] 23)).block b (blk_lt K2.out)).trans K2.out))
  have HC3 := Aside0.mk (Kd.C_below (Kd.C_below HC2.out (below_alloc (Below.refl _ _) (.cells #[.bool false, .int .i64 5, .string ⟨#[]⟩, .bool false, .int .i64 0, .string ⟨#[]⟩] 23))) hb3)
  clear hb3 HB2 HC2 K2 hT f0 f1 f2 f3 f4 f5 f6
  have g0 : w3.cell? ⟨b, 0, none⟩ = some (.int .i64 Q0.f0) := (blk_cell K3.out 0).trans rfl
  have g1 : w3.cell? ⟨b, 1, none⟩ = some (.int .i64 Q0.f1.f0) := (blk_cell K3.out 1).trans rfl
  have g2 : w3.cell? ⟨b, 2, none⟩ = some (.int .i64 Q0.f1.f1) := (blk_cell K3.out 2).trans rfl
  have g3 : w3.cell? ⟨b, 3, none⟩ = some (.bool Q0.f1.f2.f0) := (blk_cell K3.out 3).trans rfl
  have g4 : w3.cell? ⟨b, 4, none⟩ = some (.int .i64 Q0.f1.f2.f1) := (blk_cell K3.out 4).trans rfl
  have g5 : w3.cell? ⟨b, 5, none⟩ = some (.string Q0.f1.f2.f2) := (blk_cell K3.out 5).trans rfl
  have g6 : w3.cell? ⟨b, 6, none⟩ = some (.slice A Q0.f2.length c) := (blk_cell K3.out 6).trans rfl
  go_wp2_with fail
  refine (query_Holds.calls 10 Q0.f0 Q0.f1.f0 Q0.f1.f1 Q0.f1.f2.f0 Q0.f1.f2.f1 Q0.f1.f2.f2 A c Q0.f2 (some ⟨w3.heap.size, 0, none⟩) 2 [⟨false, 4, ⟨#[]⟩⟩, z23] false _ (Kd.C_below HC3.out (below_alloc (Below.refl _ _) _)) HL.out (vals_two (t := 23) (blk_new w3 _)) (Nat.le_refl _) holds_4).mono ?_
  rintro e w4 ⟨rfl, hb4⟩
  have HB4 := Aside0.mk (HB3.out.trans (((below_alloc (Below.refl w3.heap.size w3) (.cells #[.bool false, .int .i64 4, .string ⟨#[]⟩, .bool false, .int .i64 0, .string ⟨#[]⟩] 23)).trans (hb4.mono (by simp))).mono HB3.out.size))
  clear hb4
  go_wp2_with fail
  go_ret
  exact ⟨rfl, HB4.out⟩
end Go.Proofs.YtglcajijmkianaaDoor.A
