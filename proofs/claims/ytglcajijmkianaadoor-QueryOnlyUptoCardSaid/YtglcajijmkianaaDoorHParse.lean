/- query.Parse, on every text that is not too long. -/
import Derived.Test.YtglcajijmkianaaDoorAx0
import Derived.Test.YtglcajijmkianaaDoorAx2
import Derived.Test.YtglcajijmkianaaDoorHShow
import Derived.Test.YtglcajijmkianaaDoorHQuery2
namespace Go.Proofs.YtglcajijmkianaaDoor.A
open Go.RowKit Go.Proofs.YtglcajijmkianaaDoorW.PrintWords Go.Proofs.YtglcajijmkianaaDoorW.PrintLast Go.Proofs.YtglcajijmkianaaDoorW.PrintMore
open Go.Shelf Go.Lib Go.Sort
set_option linter.unusedVariables false
set_option linter.unusedSimpArgs false

/-- What a text is parsed as. -/
def fieldsOf (t : ByteArray) : List ByteArray := Lib.goFieldsP blankP t
def parseF (t : ByteArray) : Option (S28 × Int) := if t.size ≤ 4294967296 ∧ (fieldsOf t).length ≤ 4294967296 ∧ (∀ x ∈ fieldsOf t, x.size ≤ 281474976710656) then
    (if (queryF 50 (fieldsOf t) false).2.2 = true then some (z28, 14) else if (queryF 50 (fieldsOf t) false).2.1.length ≠ 0 then some (z28, 14) else (rightO 50 (queryF 50 (fieldsOf t) false).1).map fun r => if r = true then ((queryF 50 (fieldsOf t) false).1, 0) else (z28, 14)) else none

theorem own_strs {w : World} {base : Nat} {v : Value} {n : Nat} {xs : List ByteArray} (h : w.ownsRow base 9 1 v n (xs.map Value.string)) (hn : xs.length = n) : ∃ A c, v = .slice A n c ∧ Kd.C Kd.string w A n xs := by
  subst hn
  obtain ⟨A, c, e, hr⟩ := own_reads_row (R := Kd.string.K w) (ps := xs) h ⟨by simp, fun j p hj => by
    have hlt := (List.getElem?_eq_some_iff.mp hj)
    obtain ⟨hj1, rfl⟩ := hlt
    show ((xs.map Value.string).drop (j * 1)).take 1 = [Value.string xs[j]]
    rw [Nat.mul_one, List.drop_eq_getElem_cons (by simpa using hj1)]
    simp⟩ rfl
  exact ⟨A, c, e, hr⟩

set_option maxRecDepth 100000 in
set_option maxHeartbeats 8000000 in
theorem parse.calls (t : ByteArray) (r : S28 × Int) (w : World) (hG : Globs w) (h : parseF t = some r) :
    Calls Tryd.prog 12 #[.string t] w fun e w' => ∃ A c, e = .returned (.tuple #[.agg #[.int .i64 r.1.f0, .int .i64 r.1.f1.f0, .int .i64 r.1.f1.f1, .bool r.1.f1.f2.f0, .int .i64 r.1.f1.f2.f1, .string r.1.f1.f2.f2, .slice A r.1.f2.length c], .int .i64 r.2]) ∧ r.1.f2.length ≤ c ∧ Kd.C k28 w' A r.1.f2.length r.1.f2 ∧ Below w.heap.size w w' := by
  unfold parseF at h
  split at h
  case isFalse => cases h
  rename_i hsz
  obtain ⟨z0, z1, z2⟩ := hsz
  have hu28 := Tryd.underlying28
  have hu25 := Tryd.underlying25
  have hu23 := Tryd.underlying23
  have hu61 := Tryd.underlying61
  generalize hq : queryF 50 (fieldsOf t) false = qr at h
  have HQ := Aside0.mk hq
  have HG := Aside0.mk hG
  have H := Aside0.mk h
  have hff := fun W => Tryd.strings_FieldsFunc 30 #[] eg_blank blankP t W z0 (blank_pred W)
  have Z := Aside0.mk (And.intro z1 z2)
  clear hq hG h z0 z1 z2
  go_enter Tryd.func12, Tryd.ntmps12
  go_wp2_with fail
  refine (hff _).mono ?_
  rintro e w2 ⟨A0, rfl, hA, ho, hb⟩
  clear hff
  have HB2 := Aside0.mk ((below_alloc (Below.refl _ _) zero28).trans (hb.mono (by simp)))
  have K2 := Aside0.mk ((hb.block w.heap.size (by simp)).trans (blk_new w zero28))
  obtain ⟨A1, c1, e1, hR⟩ := own_strs ho rfl
  cases e1
  have HR := Aside0.mk hR
  clear hb ho hR hA
  go_wp2_with fail
  refine (query.calls 50 (by omega) 50 w2 _ w2.heap.size (fieldsOf t) false rfl ⟨_, _, blk_new w2 _, Nat.le_refl _, HR.out, Nat.le_refl _, Z.out⟩ (below_alloc (Below.refl _ _) _) (HG.out.below HB2.out)).mono ?_
  rw [HQ.out]
  rintro e w4 ⟨A, c, rfl, hlc, hRk, hS⟩
  obtain ⟨q, l', bad'⟩ := qr
  simp only at hlc hRk hS ⊢
  obtain ⟨A3, c3, hg, _, hC3, hc3, _⟩ := hS.1
  have hB4 := HB2.out.trans (hS.2.1.mono HB2.out.size)
  have hk2 := (hS.2.2.2 w.heap.size (by have := blk_lt K2.out; simp; omega) (by have := blk_lt K2.out; omega) (by simp)).trans (((below_alloc (Below.refl _ w2) (Obj.cells #[.slice (some ⟨A0, 0, none⟩) (fieldsOf t).length (fieldsOf t).length, .bool false] 61)).block w.heap.size (blk_lt K2.out)).trans K2.out)
  have hb2 : w.heap.size < w2.heap.size := blk_lt K2.out
  have HRk := Aside0.mk hRk
  have HB := Aside0.mk hB4
  have KG := Aside0.mk hg
  have KZ := Aside0.mk hk2
  have HLC := Aside0.mk hlc
  clear hRk hS hB4 HR K2 HQ Z HB2 hC3 hc3 HG hlc
  generalize hgg : w2.heap.size = g at hg hk2 HRk KG hb2 ⊢
  have HLO := Aside0.mk (show w.heap.size < (w2.alloc (Obj.cells #[.slice (some ⟨A0, 0, none⟩) (fieldsOf t).length (fieldsOf t).length, .bool false] 61)).heap.size from by simp; omega)
  generalize (w2.alloc _).heap.size = lo at HRk HLO
  generalize hbb : w.heap.size = b at hk2 HB KZ hb2 HLO ⊢
  have y0 := (blk_cell hg 0).trans rfl
  have y1 := (blk_cell hg 1).trans rfl
  have p0 := (blk_cell hk2 0).trans rfl
  have p1 := (blk_cell hk2 1).trans rfl
  have p2 := (blk_cell hk2 2).trans rfl
  have p3 := (blk_cell hk2 3).trans rfl
  have p4 := (blk_cell hk2 4).trans rfl
  have p5 := (blk_cell hk2 5).trans rfl
  have p6 := (blk_cell hk2 6).trans rfl
  have u0 := blk_frozen hk2 0
  have u1 := blk_frozen hk2 1
  have u2 := blk_frozen hk2 2
  have u3 := blk_frozen hk2 3
  have u4 := blk_frozen hk2 4
  have u5 := blk_frozen hk2 5
  have u6 := blk_frozen hk2 6
  have hbl := blk_lt hk2
  have hgl := blk_lt hg
  have HBB := Aside0.mk hbb
  clear hg hk2 hbb hgg
  cases bad' with
  | true =>
    obtain rfl := Option.some.inj ((if_pos rfl).symm.trans H.out)
    go_wp2_with fail
    refine bodyPost_ret (v := .tuple #[.agg #[.int .i64 0, .int .i64 0, .int .i64 0, .bool false, .int .i64 0, .string ⟨#[]⟩, .slice none 0 0], .int .i64 14]) (by simp [results, Tryd.results12, go_sem, p0, p1, p2, p3, p4, p5, p6, hbl]) rfl ⟨none, 0, rfl, by simp [z28], Kd.C_nil k28 _, ?_⟩
    rw [HBB.out]
    refine Below.alloc ?_ (by simp [World.setCell]; omega) _
    iterate 7 refine Below.setCell ?_ (show b ≤ b from Nat.le_refl b) _
    exact HB.out
  | false =>
    have H1 := H.out
    simp only [Bool.false_eq_true, if_false] at H1
    have HLL := Aside0.mk (rfl : l'.length = l'.length)
    generalize l'.length = n5 at y0 H1 HLL KG ⊢
    by_cases e5 : n5 = 0
    · have d5 : decide ((0 : Int) < (n5 : Int)) = false := by simp [e5]
      have d6 : decide (0 < n5) = false := by simp [e5]
      rw [if_neg (by simpa using e5)] at H1
      obtain ⟨r0, hr0, hr⟩ := Option.map_eq_some_iff.mp H1
      have hcall := fun o => right.calls 50 (by omega) 50 q A c r0 (w4.alloc o) rfl (Kd.C_below HRk.out.now (below_alloc (Below.refl _ _) o)) HLC.out hr0
      clear H1 hr0 e5
      go_wp2_with fail
      refine (hcall _).mono ?_
      rintro e w7 ⟨rfl, hb7⟩
      clear hcall
      have HB7 := Aside0.mk ((below_alloc (Below.refl _ _) (Obj.cells (qcells q A c) 28)).trans (hb7.mono (by simp)))
      have K7 := Aside0.mk ((HB7.out.block b (blk_lt KZ.out)).trans KZ.out)
      have K8 := Aside0.mk ((hb7.block w4.heap.size (by simp)).trans (blk_new w4 (Obj.cells (qcells q A c) 28)))
      clear hb7
      have hk7 := K7.out
      have p0 := (blk_cell hk7 0).trans rfl
      have p1 := (blk_cell hk7 1).trans rfl
      have p2 := (blk_cell hk7 2).trans rfl
      have p3 := (blk_cell hk7 3).trans rfl
      have p4 := (blk_cell hk7 4).trans rfl
      have p5 := (blk_cell hk7 5).trans rfl
      have p6 := (blk_cell hk7 6).trans rfl
      have u0 := blk_frozen hk7 0
      have u1 := blk_frozen hk7 1
      have u2 := blk_frozen hk7 2
      have u3 := blk_frozen hk7 3
      have u4 := blk_frozen hk7 4
      have u5 := blk_frozen hk7 5
      have u6 := blk_frozen hk7 6
      have hbl := blk_lt hk7
      have hk8 := K8.out
      have s0 := (blk_cell hk8 0).trans rfl
      have s1 := (blk_cell hk8 1).trans rfl
      have s2 := (blk_cell hk8 2).trans rfl
      have s3 := (blk_cell hk8 3).trans rfl
      have s4 := (blk_cell hk8 4).trans rfl
      have s5 := (blk_cell hk8 5).trans rfl
      have s6 := (blk_cell hk8 6).trans rfl
      clear hk7 hk8
      have hsz : b ≤ w4.heap.size := by have := blk_lt KZ.out; omega
      have HRS := Aside0.mk (Rk.below HRk.out HB7.out)
      cases r0 with
      | false =>
        obtain rfl := hr
        go_wp2_with fail
        refine bodyPost_ret (v := .tuple #[.agg #[.int .i64 0, .int .i64 0, .int .i64 0, .bool false, .int .i64 0, .string ⟨#[]⟩, .slice none 0 0], .int .i64 14]) (by simp [results, Tryd.results12, go_sem, p0, p1, p2, p3, p4, p5, p6, hbl]) rfl ⟨none, 0, rfl, by simp [z28], Kd.C_nil k28 _, ?_⟩
        rw [HBB.out]
        iterate 7 refine Below.setCell ?_ (show b ≤ b from Nat.le_refl b) _
        exact HB.out.trans (HB7.out.mono hsz)
      | true =>
        obtain rfl := hr
        go_wp2_with fail
        refine bodyPost_ret (v := .tuple #[.agg #[.int .i64 q.f0, .int .i64 q.f1.f0, .int .i64 q.f1.f1, .bool q.f1.f2.f0, .int .i64 q.f1.f2.f1, .string q.f1.f2.f2, .slice A q.f2.length c], .int .i64 0]) (by simp [results, Tryd.results12, go_sem, p0, p1, p2, p3, p4, p5, p6, hbl]) rfl ⟨A, c, rfl, HLC.out, ?_, ?_⟩
        · have hlo : b < lo := HLO.out
          refine Rk.now (lo := lo) (hi := w4.heap.size) (g := g) ?_
          iterate 7 refine Rk.set ?_ (.inl hlo) _
          exact HRS.out
        · rw [HBB.out]
          iterate 7 refine Below.setCell ?_ (show b ≤ b from Nat.le_refl b) _
          exact HB.out.trans (HB7.out.mono hsz)
    · have d5 : decide ((0 : Int) < (n5 : Int)) = true := by simp; omega
      have d6 : decide (0 < n5) = true := by simp; omega
      rw [if_pos (by simpa using e5)] at H1
      obtain rfl := Option.some.inj H1
      clear H1
      go_wp2_with fail
      refine bodyPost_ret (v := .tuple #[.agg #[.int .i64 0, .int .i64 0, .int .i64 0, .bool false, .int .i64 0, .string ⟨#[]⟩, .slice none 0 0], .int .i64 14]) (by simp [results, Tryd.results12, go_sem, p0, p1, p2, p3, p4, p5, p6, hbl]) rfl ⟨none, 0, rfl, by simp [z28], Kd.C_nil k28 _, ?_⟩
      rw [HBB.out]
      refine Below.alloc ?_ (by simp [World.setCell]; omega) _
      iterate 7 refine Below.setCell ?_ (show b ≤ b from Nat.le_refl b) _
      exact HB.out
end Go.Proofs.YtglcajijmkianaaDoor.A
