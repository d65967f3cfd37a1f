/- The document's May, of an ask and a zone that has values; on every input. -/
import Derived.Test.YtglcajijmkianaaDoorKAx0
import Derived.Test.YtglcajijmkianaaDoorKAx4
import Derived.Test.YtglcajijmkianaaDoorKHRMay
namespace Go.Proofs.YtglcajijmkianaaDoor.A
open Go.RowKit Go.Proofs.YtglcajijmkianaaDoorW.PrintWords Go.Proofs.YtglcajijmkianaaDoorW.PrintLast Go.Proofs.YtglcajijmkianaaDoorW.PrintMore
set_option linter.unusedVariables false
set_option linter.unusedSimpArgs false
set_option maxRecDepth 100000 in
set_option maxHeartbeats 16000000 in
theorem rmay_null (k : Nat) (a : S25) (z : S72) (x1 x2 x3 : Bool) (w : World) (h1 : z.f1 = true) (h2 : a.f2.f0 = true)
    (e1 : tithebarnref02_Ahead.f k true a.f2.f1 a.f2.f2 false z.f2.f1 z.f2.f2 = some x1) (e2 : tithebarnref02_Ahead.f k false z.f3.f1 z.f3.f2 true a.f2.f1 a.f2.f2 = some x2) (e3 : tithebarnref02_Ahead.f k false z.f2.f1 z.f2.f2 true a.f2.f1 a.f2.f2 = some x3) :
    Calls Tryd.prog 43 #[.agg #[Value.int IntKind.i64 a.f0, Value.int IntKind.i64 a.f1, Value.bool true, Value.int IntKind.i64 a.f2.f1, Value.string a.f2.f2], .agg #[Value.bool z.f0, Value.bool true, Value.bool z.f2.f0, Value.int IntKind.i64 z.f2.f1, Value.string z.f2.f2, Value.bool z.f3.f0, Value.int IntKind.i64 z.f3.f1, Value.string z.f3.f2]] w fun e w' => e = .returned (.bool (rmayV a z x1 x2 x3)) ∧ Below w.heap.size w w' := by
  have hu25 := Tryd.underlying25
  have hu23 := Tryd.underlying23
  have hu72 := Tryd.underlying72
  have H1 := Aside0.mk (fun W => tithebarnref02_Ahead.calls k _ _ _ _ _ _ x1 W e1)
  have H2 := Aside0.mk (fun W => tithebarnref02_Ahead.calls k _ _ _ _ _ _ x2 W e2)
  have H3 := Aside0.mk (fun W => tithebarnref02_Ahead.calls k _ _ _ _ _ _ x3 W e3)
  clear e1 e2 e3
  have HH1 := Aside0.mk h1
  have HH2 := Aside0.mk h2
  clear h1 h2
  go_enter Tryd.func43, Tryd.ntmps43
  go_upto_region 2 with (fail)
  go_cut [6, 7] (fun s6 s7 wx => ∃ g6 g7 : Nat, s6 = .pointer (some ⟨g6, 0, none⟩) ∧ s7 = .pointer (some ⟨g7, 0, none⟩) ∧ wx.cell? ⟨w.heap.size, 0, none⟩ = some (Value.int IntKind.i64 a.f0) ∧ wx.cell? ⟨w.heap.size, 1, none⟩ = some (Value.int IntKind.i64 a.f1) ∧ wx.cell? ⟨w.heap.size, 2, none⟩ = some (Value.bool true) ∧ wx.cell? ⟨w.heap.size, 3, none⟩ = some (Value.int IntKind.i64 a.f2.f1) ∧ wx.cell? ⟨w.heap.size, 4, none⟩ = some (Value.string a.f2.f2) ∧ wx.cell? ⟨w.heap.size + 1, 0, none⟩ = some (Value.bool z.f0) ∧ wx.cell? ⟨w.heap.size + 1, 1, none⟩ = some (Value.bool true) ∧ wx.cell? ⟨w.heap.size + 1, 2, none⟩ = some (Value.bool z.f2.f0) ∧ wx.cell? ⟨w.heap.size + 1, 3, none⟩ = some (Value.int IntKind.i64 z.f2.f1) ∧ wx.cell? ⟨w.heap.size + 1, 4, none⟩ = some (Value.string z.f2.f2) ∧ wx.cell? ⟨w.heap.size + 1, 5, none⟩ = some (Value.bool z.f3.f0) ∧ wx.cell? ⟨w.heap.size + 1, 6, none⟩ = some (Value.int IntKind.i64 z.f3.f1) ∧ wx.cell? ⟨w.heap.size + 1, 7, none⟩ = some (Value.string z.f3.f2) ∧ wx.cell? ⟨g6, 0, none⟩ = some (Value.bool false) ∧ wx.cell? ⟨g6, 1, none⟩ = some (Value.int IntKind.i64 z.f2.f1) ∧ wx.cell? ⟨g6, 2, none⟩ = some (Value.string z.f2.f2) ∧ wx.cell? ⟨g7, 0, none⟩ = some (Value.bool false) ∧ wx.cell? ⟨g7, 1, none⟩ = some (Value.int IntKind.i64 z.f3.f1) ∧ wx.cell? ⟨g7, 2, none⟩ = some (Value.string z.f3.f2) ∧ Aside0 (Below w.heap.size w wx))
  case first =>
    generalize hW : (w.alloc _).alloc _ = W
    have ga0 : W.cell? ⟨w.heap.size, 0, none⟩ = some (Value.int IntKind.i64 a.f0) := by rw [← hW]; simp [go_sem]
    have ga1 : W.cell? ⟨w.heap.size, 1, none⟩ = some (Value.int IntKind.i64 a.f1) := by rw [← hW]; simp [go_sem]
    have ga2 : W.cell? ⟨w.heap.size, 2, none⟩ = some (Value.bool true) := by rw [← hW]; simp [go_sem]
    have ga3 : W.cell? ⟨w.heap.size, 3, none⟩ = some (Value.int IntKind.i64 a.f2.f1) := by rw [← hW]; simp [go_sem]
    have ga4 : W.cell? ⟨w.heap.size, 4, none⟩ = some (Value.string a.f2.f2) := by rw [← hW]; simp [go_sem]
    have gz0 : W.cell? ⟨w.heap.size + 1, 0, none⟩ = some (Value.bool z.f0) := by rw [← hW]; simp [go_sem]
    have gz1 : W.cell? ⟨w.heap.size + 1, 1, none⟩ = some (Value.bool true) := by rw [← hW]; simp [go_sem]
    have gz2 : W.cell? ⟨w.heap.size + 1, 2, none⟩ = some (Value.bool z.f2.f0) := by rw [← hW]; simp [go_sem]
    have gz3 : W.cell? ⟨w.heap.size + 1, 3, none⟩ = some (Value.int IntKind.i64 z.f2.f1) := by rw [← hW]; simp [go_sem]
    have gz4 : W.cell? ⟨w.heap.size + 1, 4, none⟩ = some (Value.string z.f2.f2) := by rw [← hW]; simp [go_sem]
    have gz5 : W.cell? ⟨w.heap.size + 1, 5, none⟩ = some (Value.bool z.f3.f0) := by rw [← hW]; simp [go_sem]
    have gz6 : W.cell? ⟨w.heap.size + 1, 6, none⟩ = some (Value.int IntKind.i64 z.f3.f1) := by rw [← hW]; simp [go_sem]
    have gz7 : W.cell? ⟨w.heap.size + 1, 7, none⟩ = some (Value.string z.f3.f2) := by rw [← hW]; simp [go_sem]
    have BW : Aside0 (Below w.heap.size w W) := ⟨by rw [← hW]; exact below_alloc (below_alloc (Below.refl _ _) _) _⟩
    clear hW
    go_region_held3 (fun w' => w'.cell? ⟨w.heap.size + 1, 2, none⟩ = some (Value.bool z.f2.f0) ∧ w'.cell? ⟨w.heap.size + 1, 3, none⟩ = some (Value.int IntKind.i64 z.f2.f1) ∧ w'.cell? ⟨w.heap.size + 1, 4, none⟩ = some (Value.string z.f2.f2) ∧ w'.cell? ⟨w.heap.size + 1, 5, none⟩ = some (Value.bool z.f3.f0) ∧ w'.cell? ⟨w.heap.size + 1, 6, none⟩ = some (Value.int IntKind.i64 z.f3.f1) ∧ w'.cell? ⟨w.heap.size + 1, 7, none⟩ = some (Value.string z.f3.f2)) ((repeat' apply And.intro) <;> (repeat (with_reducible (first | assumption | refine cell_dr ?_ | refine cell_al _ ?_))))
      (first | (go_at_call 69; refine (bare11.exact _ _ _ _).mono ?_; rintro e w' ⟨rfl, rfl⟩))
    all_goals
      go_wp2_with fail
      go_meet
      refine ⟨_, _, rfl, rfl, ?_, ?_, ?_, ?_, ?_, ?_, ?_, ?_, ?_, ?_, ?_, ?_, ?_, ?_, ?_, ?_, ?_, ?_, ?_, ?_⟩
      iterate 13 (· (repeat (with_reducible (first | assumption | refine cell_dr ?_ | refine cell_al _ ?_))))
      iterate 6 (· ((with_reducible refine cell_dr ?_); first | (refine new_cell _ _ _ _ ?_ rfl; simp; done) | ((with_reducible refine cell_al _ ?_); first | (refine new_cell _ _ _ _ ?_ rfl; simp; done) | ((with_reducible refine cell_al _ ?_); first | (refine new_cell _ _ _ _ ?_ rfl; simp; done) | ((with_reducible refine cell_al _ ?_); first | (refine new_cell _ _ _ _ ?_ rfl; simp; done) | ((with_reducible refine cell_al _ ?_); first | (refine new_cell _ _ _ _ ?_ rfl; simp; done) | ((with_reducible refine cell_al _ ?_); (refine new_cell _ _ _ _ ?_ rfl; simp; done))))))))
      · (refine AB_drew ?_; (repeat (with_reducible refine AB_al ?_ _)); assumption)
  case rest =>
    obtain ⟨g6, g7, rfl, rfl, ga0, ga1, ga2, ga3, ga4, gz0, gz1, gz2, gz3, gz4, gz5, gz6, gz7, l0, l1, l2, m0, m1, m2, HB⟩ := hcut
    rename_i wc
    by_cases o0 : a.f0 = 0
    · have HR : Aside0 (rmayV a z x1 x2 x3 = (z.f0 || z.f1)) := ⟨by simp [rmayV, o0]⟩
      have d0 : (a.f0 == 0) = true := by simp [o0]
      clear o0 H1 H2 H3
      cases h0 : z.f0 <;> go_wp2_with fail
      all_goals
        go_ret
        exact ⟨by rw [HR.out, h0, HH1.out]; rfl, HB.out⟩
    have d0 : (a.f0 == 0) = false := by simpa using o0
    by_cases o1 : a.f0 = 1
    · have HR : Aside0 (rmayV a z x1 x2 x3 = (z.f1 && !a.f2.f0 && !x1 && !x2)) := ⟨by simp [rmayV, o1]⟩
      have d1 : (a.f0 == 1) = true := by simp [o1]
      clear o0 o1 H3
      go_wp2_with fail
      go_ret
      exact ⟨by rw [HR.out, HH1.out, HH2.out]; simp, HB.out⟩
    have d1 : (a.f0 == 1) = false := by simpa using o1
    by_cases o2 : a.f0 = 2
    · have HR : Aside0 (rmayV a z x1 x2 x3 = (z.f1 && !a.f2.f0 && x3)) := ⟨by simp [rmayV, o2]⟩
      have d2 : (a.f0 == 2) = true := by simp [o2]
      clear o0 o1 o2 H1 H2
      go_wp2_with fail
      go_ret
      exact ⟨by rw [HR.out, HH1.out, HH2.out]; simp, HB.out⟩
    have d2 : (a.f0 == 2) = false := by simpa using o2
    by_cases o3 : a.f0 = 3
    · have HR : Aside0 (rmayV a z x1 x2 x3 = (z.f1 && !a.f2.f0 && !x2)) := ⟨by simp [rmayV, o3]⟩
      have d3 : (a.f0 == 3) = true := by simp [o3]
      clear o0 o1 o2 o3 H1 H3
      go_wp2_with fail
      go_ret
      exact ⟨by rw [HR.out, HH1.out, HH2.out]; simp, HB.out⟩
    have d3 : (a.f0 == 3) = false := by simpa using o3
    by_cases o4 : a.f0 = 4
    · have HR : Aside0 (rmayV a z x1 x2 x3 = z.f0) := ⟨by simp [rmayV, o4]⟩
      have d4 : (a.f0 == 4) = true := by simp [o4]
      clear o0 o1 o2 o3 o4 H1 H2 H3
      go_wp2_with fail
      go_ret
      exact ⟨by first | (rw [HR.out]; done) | (rw [HR.out]; rfl), HB.out⟩
    have d4 : (a.f0 == 4) = false := by simpa using o4
    by_cases o5 : a.f0 = 5
    · have HR : Aside0 (rmayV a z x1 x2 x3 = z.f1) := ⟨by simp [rmayV, o5]⟩
      have d5 : (a.f0 == 5) = true := by simp [o5]
      clear o0 o1 o2 o3 o4 o5 H1 H2 H3
      go_wp2_with fail
      go_ret
      exact ⟨by first | (rw [HR.out, HH1.out]; done) | (rw [HR.out, HH1.out]; rfl), HB.out⟩
    have d5 : (a.f0 == 5) = false := by simpa using o5
    have HR : Aside0 (rmayV a z x1 x2 x3 = false) := ⟨by simp [rmayV, o0, o1, o2, o3, o4, o5]⟩
    clear o0 o1 o2 o3 o4 o5 H1 H2 H3
    go_wp2_with fail
    go_ret
    exact ⟨by first | (rw [HR.out]; done) | (rw [HR.out]; rfl), HB.out⟩
set_option maxRecDepth 100000 in
set_option maxHeartbeats 16000000 in
theorem rmay_yes (k : Nat) (a : S25) (z : S72) (x1 x2 x3 : Bool) (w : World) (h1 : z.f1 = true) (h2 : a.f2.f0 = false)
    (e1 : tithebarnref02_Ahead.f k false a.f2.f1 a.f2.f2 false z.f2.f1 z.f2.f2 = some x1) (e2 : tithebarnref02_Ahead.f k false z.f3.f1 z.f3.f2 false a.f2.f1 a.f2.f2 = some x2) (e3 : tithebarnref02_Ahead.f k false z.f2.f1 z.f2.f2 false a.f2.f1 a.f2.f2 = some x3) :
    Calls Tryd.prog 43 #[.agg #[Value.int IntKind.i64 a.f0, Value.int IntKind.i64 a.f1, Value.bool false, Value.int IntKind.i64 a.f2.f1, Value.string a.f2.f2], .agg #[Value.bool z.f0, Value.bool true, Value.bool z.f2.f0, Value.int IntKind.i64 z.f2.f1, Value.string z.f2.f2, Value.bool z.f3.f0, Value.int IntKind.i64 z.f3.f1, Value.string z.f3.f2]] w fun e w' => e = .returned (.bool (rmayV a z x1 x2 x3)) ∧ Below w.heap.size w w' := by
  have hu25 := Tryd.underlying25
  have hu23 := Tryd.underlying23
  have hu72 := Tryd.underlying72
  have H1 := Aside0.mk (fun W => tithebarnref02_Ahead.calls k _ _ _ _ _ _ x1 W e1)
  have H2 := Aside0.mk (fun W => tithebarnref02_Ahead.calls k _ _ _ _ _ _ x2 W e2)
  have H3 := Aside0.mk (fun W => tithebarnref02_Ahead.calls k _ _ _ _ _ _ x3 W e3)
  clear e1 e2 e3
  have HH1 := Aside0.mk h1
  have HH2 := Aside0.mk h2
  clear h1 h2
  go_enter Tryd.func43, Tryd.ntmps43
  go_upto_region 2 with (fail)
  go_cut [6, 7] (fun s6 s7 wx => ∃ g6 g7 : Nat, s6 = .pointer (some ⟨g6, 0, none⟩) ∧ s7 = .pointer (some ⟨g7, 0, none⟩) ∧ wx.cell? ⟨w.heap.size, 0, none⟩ = some (Value.int IntKind.i64 a.f0) ∧ wx.cell? ⟨w.heap.size, 1, none⟩ = some (Value.int IntKind.i64 a.f1) ∧ wx.cell? ⟨w.heap.size, 2, none⟩ = some (Value.bool false) ∧ wx.cell? ⟨w.heap.size, 3, none⟩ = some (Value.int IntKind.i64 a.f2.f1) ∧ wx.cell? ⟨w.heap.size, 4, none⟩ = some (Value.string a.f2.f2) ∧ wx.cell? ⟨w.heap.size + 1, 0, none⟩ = some (Value.bool z.f0) ∧ wx.cell? ⟨w.heap.size + 1, 1, none⟩ = some (Value.bool true) ∧ wx.cell? ⟨w.heap.size + 1, 2, none⟩ = some (Value.bool z.f2.f0) ∧ wx.cell? ⟨w.heap.size + 1, 3, none⟩ = some (Value.int IntKind.i64 z.f2.f1) ∧ wx.cell? ⟨w.heap.size + 1, 4, none⟩ = some (Value.string z.f2.f2) ∧ wx.cell? ⟨w.heap.size + 1, 5, none⟩ = some (Value.bool z.f3.f0) ∧ wx.cell? ⟨w.heap.size + 1, 6, none⟩ = some (Value.int IntKind.i64 z.f3.f1) ∧ wx.cell? ⟨w.heap.size + 1, 7, none⟩ = some (Value.string z.f3.f2) ∧ wx.cell? ⟨g6, 0, none⟩ = some (Value.bool false) ∧ wx.cell? ⟨g6, 1, none⟩ = some (Value.int IntKind.i64 z.f2.f1) ∧ wx.cell? ⟨g6, 2, none⟩ = some (Value.string z.f2.f2) ∧ wx.cell? ⟨g7, 0, none⟩ = some (Value.bool false) ∧ wx.cell? ⟨g7, 1, none⟩ = some (Value.int IntKind.i64 z.f3.f1) ∧ wx.cell? ⟨g7, 2, none⟩ = some (Value.string z.f3.f2) ∧ Aside0 (Below w.heap.size w wx))
  case first =>
    generalize hW : (w.alloc _).alloc _ = W
    have ga0 : W.cell? ⟨w.heap.size, 0, none⟩ = some (Value.int IntKind.i64 a.f0) := by rw [← hW]; simp [go_sem]
    have ga1 : W.cell? ⟨w.heap.size, 1, none⟩ = some (Value.int IntKind.i64 a.f1) := by rw [← hW]; simp [go_sem]
    have ga2 : W.cell? ⟨w.heap.size, 2, none⟩ = some (Value.bool false) := by rw [← hW]; simp [go_sem]
    have ga3 : W.cell? ⟨w.heap.size, 3, none⟩ = some (Value.int IntKind.i64 a.f2.f1) := by rw [← hW]; simp [go_sem]
    have ga4 : W.cell? ⟨w.heap.size, 4, none⟩ = some (Value.string a.f2.f2) := by rw [← hW]; simp [go_sem]
    have gz0 : W.cell? ⟨w.heap.size + 1, 0, none⟩ = some (Value.bool z.f0) := by rw [← hW]; simp [go_sem]
    have gz1 : W.cell? ⟨w.heap.size + 1, 1, none⟩ = some (Value.bool true) := by rw [← hW]; simp [go_sem]
    have gz2 : W.cell? ⟨w.heap.size + 1, 2, none⟩ = some (Value.bool z.f2.f0) := by rw [← hW]; simp [go_sem]
    have gz3 : W.cell? ⟨w.heap.size + 1, 3, none⟩ = some (Value.int IntKind.i64 z.f2.f1) := by rw [← hW]; simp [go_sem]
    have gz4 : W.cell? ⟨w.heap.size + 1, 4, none⟩ = some (Value.string z.f2.f2) := by rw [← hW]; simp [go_sem]
    have gz5 : W.cell? ⟨w.heap.size + 1, 5, none⟩ = some (Value.bool z.f3.f0) := by rw [← hW]; simp [go_sem]
    have gz6 : W.cell? ⟨w.heap.size + 1, 6, none⟩ = some (Value.int IntKind.i64 z.f3.f1) := by rw [← hW]; simp [go_sem]
    have gz7 : W.cell? ⟨w.heap.size + 1, 7, none⟩ = some (Value.string z.f3.f2) := by rw [← hW]; simp [go_sem]
    have BW : Aside0 (Below w.heap.size w W) := ⟨by rw [← hW]; exact below_alloc (below_alloc (Below.refl _ _) _) _⟩
    clear hW
    go_region_held3 (fun w' => w'.cell? ⟨w.heap.size + 1, 2, none⟩ = some (Value.bool z.f2.f0) ∧ w'.cell? ⟨w.heap.size + 1, 3, none⟩ = some (Value.int IntKind.i64 z.f2.f1) ∧ w'.cell? ⟨w.heap.size + 1, 4, none⟩ = some (Value.string z.f2.f2) ∧ w'.cell? ⟨w.heap.size + 1, 5, none⟩ = some (Value.bool z.f3.f0) ∧ w'.cell? ⟨w.heap.size + 1, 6, none⟩ = some (Value.int IntKind.i64 z.f3.f1) ∧ w'.cell? ⟨w.heap.size + 1, 7, none⟩ = some (Value.string z.f3.f2)) ((repeat' apply And.intro) <;> (repeat (with_reducible (first | assumption | refine cell_dr ?_ | refine cell_al _ ?_))))
      (first | (go_at_call 69; refine (bare11.exact _ _ _ _).mono ?_; rintro e w' ⟨rfl, rfl⟩))
    all_goals
      go_wp2_with fail
      go_meet
      refine ⟨_, _, rfl, rfl, ?_, ?_, ?_, ?_, ?_, ?_, ?_, ?_, ?_, ?_, ?_, ?_, ?_, ?_, ?_, ?_, ?_, ?_, ?_, ?_⟩
      iterate 13 (· (repeat (with_reducible (first | assumption | refine cell_dr ?_ | refine cell_al _ ?_))))
      iterate 6 (· ((with_reducible refine cell_dr ?_); first | (refine new_cell _ _ _ _ ?_ rfl; simp; done) | ((with_reducible refine cell_al _ ?_); first | (refine new_cell _ _ _ _ ?_ rfl; simp; done) | ((with_reducible refine cell_al _ ?_); first | (refine new_cell _ _ _ _ ?_ rfl; simp; done) | ((with_reducible refine cell_al _ ?_); first | (refine new_cell _ _ _ _ ?_ rfl; simp; done) | ((with_reducible refine cell_al _ ?_); first | (refine new_cell _ _ _ _ ?_ rfl; simp; done) | ((with_reducible refine cell_al _ ?_); (refine new_cell _ _ _ _ ?_ rfl; simp; done))))))))
      · (refine AB_drew ?_; (repeat (with_reducible refine AB_al ?_ _)); assumption)
  case rest =>
    obtain ⟨g6, g7, rfl, rfl, ga0, ga1, ga2, ga3, ga4, gz0, gz1, gz2, gz3, gz4, gz5, gz6, gz7, l0, l1, l2, m0, m1, m2, HB⟩ := hcut
    rename_i wc
    by_cases o0 : a.f0 = 0
    · have HR : Aside0 (rmayV a z x1 x2 x3 = (z.f0 || z.f1)) := ⟨by simp [rmayV, o0]⟩
      have d0 : (a.f0 == 0) = true := by simp [o0]
      clear o0 H1 H2 H3
      cases h0 : z.f0 <;> go_wp2_with fail
      all_goals
        go_ret
        exact ⟨by rw [HR.out, h0, HH1.out]; rfl, HB.out⟩
    have d0 : (a.f0 == 0) = false := by simpa using o0
    by_cases o1 : a.f0 = 1
    · have HR : Aside0 (rmayV a z x1 x2 x3 = (z.f1 && !a.f2.f0 && !x1 && !x2)) := ⟨by simp [rmayV, o1]⟩
      have d1 : (a.f0 == 1) = true := by simp [o1]
      clear o0 o1 H3
      go_wp2_with fail
      refine (H1.out _).mono ?_
      rintro e w1 ⟨rfl, hb1⟩
      have HB1 := Aside0.mk (HB.out.trans (hb1.mono HB.out.size))
      have n2 : w1.cell? ⟨w.heap.size, 2, none⟩ = some (Value.bool false) := pw_cell_below hb1 ga2
      have n3 : w1.cell? ⟨w.heap.size, 3, none⟩ = some (Value.int IntKind.i64 a.f2.f1) := pw_cell_below hb1 ga3
      have n4 : w1.cell? ⟨w.heap.size, 4, none⟩ = some (Value.string a.f2.f2) := pw_cell_below hb1 ga4
      have p0 : w1.cell? ⟨g7, 0, none⟩ = some (Value.bool false) := pw_cell_below hb1 m0
      have p1 : w1.cell? ⟨g7, 1, none⟩ = some (Value.int IntKind.i64 z.f3.f1) := pw_cell_below hb1 m1
      have p2 : w1.cell? ⟨g7, 2, none⟩ = some (Value.string z.f3.f2) := pw_cell_below hb1 m2
      clear hb1
      cases x1 with
      | true =>
        go_wp2_with fail
        go_ret
        exact ⟨by rw [HR.out]; simp, HB1.out⟩
      | false =>
        go_wp2_with fail
        refine (H2.out _).mono ?_
        rintro e w2 ⟨rfl, hb2⟩
        have HB2 := Aside0.mk (HB1.out.trans (hb2.mono HB1.out.size))
        clear hb2
        go_wp2_with fail
        go_ret
        exact ⟨by rw [HR.out, HH1.out, HH2.out]; cases x2 <;> rfl, HB2.out⟩
    have d1 : (a.f0 == 1) = false := by simpa using o1
    by_cases o2 : a.f0 = 2
    · have HR : Aside0 (rmayV a z x1 x2 x3 = (z.f1 && !a.f2.f0 && x3)) := ⟨by simp [rmayV, o2]⟩
      have d2 : (a.f0 == 2) = true := by simp [o2]
      clear o0 o1 o2 H1 H2
      go_wp2_with fail
      refine (H3.out _).mono ?_
      rintro e w1 ⟨rfl, hb1⟩
      have HB1 := Aside0.mk (HB.out.trans (hb1.mono HB.out.size))
      clear hb1
      go_wp2_with fail
      go_ret
      exact ⟨by rw [HR.out, HH1.out, HH2.out]; cases x3 <;> rfl, HB1.out⟩
    have d2 : (a.f0 == 2) = false := by simpa using o2
    by_cases o3 : a.f0 = 3
    · have HR : Aside0 (rmayV a z x1 x2 x3 = (z.f1 && !a.f2.f0 && !x2)) := ⟨by simp [rmayV, o3]⟩
      have d3 : (a.f0 == 3) = true := by simp [o3]
      clear o0 o1 o2 o3 H1 H3
      go_wp2_with fail
      refine (H2.out _).mono ?_
      rintro e w1 ⟨rfl, hb1⟩
      have HB1 := Aside0.mk (HB.out.trans (hb1.mono HB.out.size))
      clear hb1
      go_wp2_with fail
      go_ret
      exact ⟨by rw [HR.out, HH1.out, HH2.out]; cases x2 <;> rfl, HB1.out⟩
    have d3 : (a.f0 == 3) = false := by simpa using o3
    by_cases o4 : a.f0 = 4
    · have HR : Aside0 (rmayV a z x1 x2 x3 = z.f0) := ⟨by simp [rmayV, o4]⟩
      have d4 : (a.f0 == 4) = true := by simp [o4]
      clear o0 o1 o2 o3 o4 H1 H2 H3
      go_wp2_with fail
      go_ret
      exact ⟨by first | (rw [HR.out]; done) | (rw [HR.out]; rfl), HB.out⟩
    have d4 : (a.f0 == 4) = false := by simpa using o4
    by_cases o5 : a.f0 = 5
    · have HR : Aside0 (rmayV a z x1 x2 x3 = z.f1) := ⟨by simp [rmayV, o5]⟩
      have d5 : (a.f0 == 5) = true := by simp [o5]
      clear o0 o1 o2 o3 o4 o5 H1 H2 H3
      go_wp2_with fail
      go_ret
      exact ⟨by first | (rw [HR.out, HH1.out]; done) | (rw [HR.out, HH1.out]; rfl), HB.out⟩
    have d5 : (a.f0 == 5) = false := by simpa using o5
    have HR : Aside0 (rmayV a z x1 x2 x3 = false) := ⟨by simp [rmayV, o0, o1, o2, o3, o4, o5]⟩
    clear o0 o1 o2 o3 o4 o5 H1 H2 H3
    go_wp2_with fail
    go_ret
    exact ⟨by first | (rw [HR.out]; done) | (rw [HR.out]; rfl), HB.out⟩
def tithebarnref11_May.f (k : Nat) (a0 a1 : Int) (a2 : Bool) (a3 : Int) (a4 : ByteArray) (z0 z1 z2 : Bool) (z3 : Int) (z4 : ByteArray) (z5 : Bool) (z6 : Int) (z7 : ByteArray) : Option Bool :=
  (tithebarnref02_Ahead.f k a2 a3 a4 false z3 z4).bind fun x1 => (tithebarnref02_Ahead.f k false z6 z7 a2 a3 a4).bind fun x2 => (tithebarnref02_Ahead.f k false z3 z4 a2 a3 a4).bind fun x3 => some (rmayV ⟨a0, a1, ⟨a2, a3, a4⟩⟩ ⟨z0, z1, ⟨z2, z3, z4⟩, ⟨z5, z6, z7⟩⟩ x1 x2 x3)
theorem tithebarnref11_May.calls (k : Nat) (a0_0 : Int) (a0_1 : Int) (a0_2 : Bool) (a0_3 : Int) (a0_4 : ByteArray) (a1_0 : Bool) (a1_1 : Bool) (a1_2 : Bool) (a1_3 : Int) (a1_4 : ByteArray) (a1_5 : Bool) (a1_6 : Int) (a1_7 : ByteArray) (r : Bool) (w : World) (h : tithebarnref11_May.f k a0_0 a0_1 a0_2 a0_3 a0_4 a1_0 a1_1 a1_2 a1_3 a1_4 a1_5 a1_6 a1_7 = some r) :
    Calls Tryd.prog 43 #[.agg #[.int .i64 a0_0, .int .i64 a0_1, .bool a0_2, .int .i64 a0_3, .string a0_4], .agg #[.bool a1_0, .bool a1_1, .bool a1_2, .int .i64 a1_3, .string a1_4, .bool a1_5, .int .i64 a1_6, .string a1_7]] w fun e w' => e = .returned (.bool r) ∧ Below w.heap.size w w' := by
  unfold tithebarnref11_May.f at h
  obtain ⟨x1, e1, h⟩ := Option.bind_eq_some_iff.mp h
  obtain ⟨x2, e2, h⟩ := Option.bind_eq_some_iff.mp h
  obtain ⟨x3, e3, h⟩ := Option.bind_eq_some_iff.mp h
  obtain rfl := Option.some.inj h
  cases a1_1 with
  | false => exact rmay_no k ⟨a0_0, a0_1, ⟨a0_2, a0_3, a0_4⟩⟩ ⟨a1_0, false, ⟨a1_2, a1_3, a1_4⟩, ⟨a1_5, a1_6, a1_7⟩⟩ x1 x2 x3 w rfl e1 e2 e3
  | true =>
    cases a0_2 with
    | true => exact rmay_null k ⟨a0_0, a0_1, ⟨true, a0_3, a0_4⟩⟩ ⟨a1_0, true, ⟨a1_2, a1_3, a1_4⟩, ⟨a1_5, a1_6, a1_7⟩⟩ x1 x2 x3 w rfl rfl e1 e2 e3
    | false => exact rmay_yes k ⟨a0_0, a0_1, ⟨false, a0_3, a0_4⟩⟩ ⟨a1_0, true, ⟨a1_2, a1_3, a1_4⟩, ⟨a1_5, a1_6, a1_7⟩⟩ x1 x2 x3 w rfl rfl e1 e2 e3
end Go.Proofs.YtglcajijmkianaaDoor.A
