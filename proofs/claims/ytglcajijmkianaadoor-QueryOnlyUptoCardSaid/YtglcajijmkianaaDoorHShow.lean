/- query.Show. -/
import Derived.Test.YtglcajijmkianaaDoorAx0
import Derived.Test.YtglcajijmkianaaDoorAx2
import Derived.Test.YtglcajijmkianaaDoorHWords3
import Derived.Test.YtglcajijmkianaaDoorHRight
namespace Go.Proofs.YtglcajijmkianaaDoor.A
open Go.RowKit Go.Proofs.YtglcajijmkianaaDoorW.PrintWords Go.Proofs.YtglcajijmkianaaDoorW.PrintLast Go.Proofs.YtglcajijmkianaaDoorW.PrintMore
open Go.Shelf Go.Lib Go.Sort
set_option linter.unusedVariables false
set_option linter.unusedSimpArgs false

/-- A query's text, and whether it may be. -/
def showF (q : S28) : Option (ByteArray × Int) := (rightO 50 q).bind fun r => if r = false then some (⟨#[]⟩, 4) else (wordsO 50 q).bind fun ws => if ws.length * 16 ≤ 140737488355328 then (strings_Join.f ws ⟨#[32]⟩).map fun s => (s, 0) else none

theorem WS.reads {w0 w : World} {v : Value} {xs : List ByteArray} (h : WS w0 w v xs) : ∃ A c, v = .slice A xs.length c ∧ xs.length ≤ c ∧ Kd.C Kd.string w A xs.length xs := by
  obtain ⟨A, c, e, hr⟩ := own_reads_row (R := Kd.string.K w) (ps := xs) h.own ⟨by simp, fun j p hj => by
    have hlt := (List.getElem?_eq_some_iff.mp hj)
    obtain ⟨hj1, rfl⟩ := hlt
    show ((xs.map Value.string).drop (j * 1)).take 1 = [Value.string xs[j]]
    rw [Nat.mul_one, List.drop_eq_getElem_cons (by simpa using hj1)]
    simp⟩ rfl
  refine ⟨A, c, e, ?_, hr⟩
  rcases h.own.2 with ⟨e1, e2⟩ | ⟨g, cap, cur, e1, _, _, hcap, _⟩
  · omega
  · rw [e] at e1; cases e1; exact hcap

set_option maxRecDepth 100000 in
set_option maxHeartbeats 4000000 in
theorem show.calls (q : S28) (A : Option Addr) (c : Nat) (r : ByteArray × Int) (w : World) (hG : Globs w) (hC : Kd.C k28 w A q.f2.length q.f2) (hc : q.f2.length ≤ c) (h : showF q = some r) :
    Calls Tryd.prog 10 #[.agg #[.int .i64 q.f0, .int .i64 q.f1.f0, .int .i64 q.f1.f1, .bool q.f1.f2.f0, .int .i64 q.f1.f2.f1, .string q.f1.f2.f2, .slice A q.f2.length c]] w fun e w' => e = .returned (.tuple #[.string r.1, .int .i64 r.2]) ∧ Below w.heap.size w w' := by
  unfold showF at h
  obtain ⟨b, hb, h⟩ := Option.bind_eq_some_iff.mp h
  have hu28 := Tryd.underlying28
  have hcall := fun o => right.calls 50 (by omega) 50 q A c b (w.alloc o) rfl (Kd.C_below hC (below_alloc (Below.refl _ _) o)) hc hb
  cases b with
  | false =>
    obtain rfl := Option.some.inj ((if_pos rfl).symm.trans h)
    clear h hb hC hG
    go_enter Tryd.func10, Tryd.ntmps10
    go_wp2_with fail
    refine (hcall _).mono ?_
    rintro e w' ⟨rfl, hb'⟩
    go_wp2_with fail
    exact bodyPost_ret (v := .tuple #[.string ⟨#[]⟩, .int .i64 4]) (by simp [results, Tryd.results10, go_sem]) rfl ⟨rfl, (below_alloc (Below.refl _ _) _).trans (hb'.mono (by simp))⟩
  | true =>
    obtain ⟨ws, hws, h⟩ := Option.bind_eq_some_iff.mp ((if_neg (by simp)).symm.trans h)
    split at h
    case isFalse => cases h
    rename_i hlen
    obtain ⟨s, hs, rfl⟩ := Option.map_eq_some_iff.mp h
    have HG := Aside0.mk hG
    have HC := Aside0.mk hC
    have HS := Aside0.mk hs
    have HW := Aside0.mk hws
    have HLN := Aside0.mk hlen
    clear h hb hC hG hs hws hlen
    go_enter Tryd.func10, Tryd.ntmps10
    go_wp2_with fail
    refine (hcall _).mono ?_
    rintro e w1 ⟨rfl, hb'⟩
    have HB := Aside0.mk ((below_alloc (Below.refl _ _) (Obj.cells (qcells q A c) 28)).trans (hb'.mono (by simp)))
    have KB := Aside0.mk ((hb'.block w.heap.size (by simp)).trans (blk_new w (Obj.cells (qcells q A c) 28)))
    clear hb' hcall
    have q0 := (blk_cell KB.out 0).trans rfl
    have q1 := (blk_cell KB.out 1).trans rfl
    have q2 := (blk_cell KB.out 2).trans rfl
    have q3 := (blk_cell KB.out 3).trans rfl
    have q4 := (blk_cell KB.out 4).trans rfl
    have q5 := (blk_cell KB.out 5).trans rfl
    have q6 := (blk_cell KB.out 6).trans rfl
    go_wp2_with fail
    refine (words.calls 50 w1 q ws A c _ [] w1 (HG.out.below HB.out) (Kd.C_below HC.out HB.out) hc (WS.nil w1) (by simpa using HLN.out) HW.out).mono ?_
    rintro e w2 ⟨v2, rfl, hI, _⟩
    obtain ⟨A2, c2, rfl, hc2, hR⟩ := WS.reads hI
    have HB2 := Aside0.mk (HB.out.trans (hI.bel.mono HB.out.size))
    have HR2 := Aside0.mk hR
    clear hI hR
    go_wp2_with fail
    refine (strings_Join.calls A2 c2 ws ⟨#[32]⟩ s w2 HR2.out hc2 HS.out).mono ?_
    rintro e w3 ⟨rfl, hb3⟩
    go_wp2_with fail
    exact bodyPost_ret (v := .tuple #[.string s, .int .i64 0]) (by simp [results, Tryd.results10, go_sem]) rfl ⟨rfl, HB2.out.trans (hb3.mono HB2.out.size)⟩
end Go.Proofs.YtglcajijmkianaaDoor.A
