/- The document's May, of an ask and a zone; on every input. -/
import Derived.Test.YtglcajijmkianaaDoorKAx0
import Derived.Test.YtglcajijmkianaaDoorKAx4
import Derived.Test.YtglcajijmkianaaDoorKHIdx
import Derived.Deep.DeepCutAuto
namespace Go.Proofs.YtglcajijmkianaaDoor.A
open Go.RowKit Go.Proofs.YtglcajijmkianaaDoorW.PrintWords Go.Proofs.YtglcajijmkianaaDoorW.PrintLast Go.Proofs.YtglcajijmkianaaDoorW.PrintMore
set_option linter.unusedVariables false
set_option linter.unusedSimpArgs false
set_option maxRecDepth 100000 in
set_option maxHeartbeats 2000000 in
theorem bare11.exact (b : Bool) (n : Int) (s : ByteArray) (w : World) :
    Calls Tryd.prog 69 #[.agg #[.bool b, .int .i64 n, .string s]] w fun e w' => e = .returned (.agg #[.bool false, .int .i64 n, .string s]) ∧ w' = (w.alloc (.cells #[.bool b, .int .i64 n, .string s] 23)).alloc (.cells #[.bool false, .int .i64 n, .string s] 23) := by
  have hu23 := Tryd.underlying23
  go_enter Tryd.func69, Tryd.ntmps69
  go_wp2
  exact bodyPost_ret (v := .agg #[.bool false, .int .i64 n, .string s]) (by simp [results, Tryd.results69, go_sem]) rfl ⟨rfl, rfl⟩
theorem cell_al {W : World} {a : Addr} {v : Value} (o : Obj) (h : W.cell? a = some v) : (W.alloc o).cell? a = some v := pw_cell_below (below_alloc (Below.refl _ _) o) h
theorem cell_dr {W : World} {a : Addr} {v : Value} (h : W.cell? a = some v) : W.drew.cell? a = some v := h
theorem new_cell (W : World) (cs : Array Value) (t : TypeId) (n : Nat) {i : Nat} {u : Value} (hn : n = W.heap.size) (hu : cs[i]? = some u) : (W.alloc (.cells cs t)).cell? ⟨n, i, none⟩ = some u := by
  subst hn
  exact (blk_cell (blk_new W (.cells cs t)) i).trans hu
theorem AB_al {w W : World} (h : Aside0 (Below w.heap.size w W)) (o : Obj) : Aside0 (Below w.heap.size w (W.alloc o)) := ⟨below_alloc h.out o⟩
def rmayV (a : S25) (z : S72) (x1 x2 x3 : Bool) : Bool :=
  if a.f0 = 0 then z.f0 || z.f1 else if a.f0 = 1 then z.f1 && !a.f2.f0 && !x1 && !x2 else if a.f0 = 2 then z.f1 && !a.f2.f0 && x3 else if a.f0 = 3 then z.f1 && !a.f2.f0 && !x2 else if a.f0 = 4 then z.f0 else if a.f0 = 5 then z.f1 else false
set_option maxRecDepth 100000 in
set_option maxHeartbeats 16000000 in
theorem rmay_no (k : Nat) (a : S25) (z : S72) (x1 x2 x3 : Bool) (w : World) (h1 : z.f1 = false)
    (e1 : tithebarnref02_Ahead.f k a.f2.f0 a.f2.f1 a.f2.f2 false z.f2.f1 z.f2.f2 = some x1) (e2 : tithebarnref02_Ahead.f k false z.f3.f1 z.f3.f2 a.f2.f0 a.f2.f1 a.f2.f2 = some x2) (e3 : tithebarnref02_Ahead.f k false z.f2.f1 z.f2.f2 a.f2.f0 a.f2.f1 a.f2.f2 = some x3) :
    Calls Tryd.prog 43 #[.agg #[Value.int IntKind.i64 a.f0, Value.int IntKind.i64 a.f1, Value.bool a.f2.f0, Value.int IntKind.i64 a.f2.f1, Value.string a.f2.f2], .agg #[Value.bool z.f0, Value.bool false, Value.bool z.f2.f0, Value.int IntKind.i64 z.f2.f1, Value.string z.f2.f2, Value.bool z.f3.f0, Value.int IntKind.i64 z.f3.f1, Value.string z.f3.f2]] w fun e w' => e = .returned (.bool (rmayV a z x1 x2 x3)) ∧ Below w.heap.size w w' := by
  have hu25 := Tryd.underlying25
  have hu23 := Tryd.underlying23
  have hu72 := Tryd.underlying72
  have H1 := Aside0.mk (fun W => tithebarnref02_Ahead.calls k _ _ _ _ _ _ x1 W e1)
  have H2 := Aside0.mk (fun W => tithebarnref02_Ahead.calls k _ _ _ _ _ _ x2 W e2)
  have H3 := Aside0.mk (fun W => tithebarnref02_Ahead.calls k _ _ _ _ _ _ x3 W e3)
  clear e1 e2 e3
  have HH1 := Aside0.mk h1
  clear h1
  go_enter Tryd.func43, Tryd.ntmps43
  go_upto_region 2 with (fail)
  go_cut [6, 7] (fun s6 s7 wx => ∃ g6 g7 : Nat, s6 = .pointer (some ⟨g6, 0, none⟩) ∧ s7 = .pointer (some ⟨g7, 0, none⟩) ∧ wx.cell? ⟨w.heap.size, 0, none⟩ = some (Value.int IntKind.i64 a.f0) ∧ wx.cell? ⟨w.heap.size, 1, none⟩ = some (Value.int IntKind.i64 a.f1) ∧ wx.cell? ⟨w.heap.size, 2, none⟩ = some (Value.bool a.f2.f0) ∧ wx.cell? ⟨w.heap.size, 3, none⟩ = some (Value.int IntKind.i64 a.f2.f1) ∧ wx.cell? ⟨w.heap.size, 4, none⟩ = some (Value.string a.f2.f2) ∧ wx.cell? ⟨w.heap.size + 1, 0, none⟩ = some (Value.bool z.f0) ∧ wx.cell? ⟨w.heap.size + 1, 1, none⟩ = some (Value.bool false) ∧ wx.cell? ⟨w.heap.size + 1, 2, none⟩ = some (Value.bool z.f2.f0) ∧ wx.cell? ⟨w.heap.size + 1, 3, none⟩ = some (Value.int IntKind.i64 z.f2.f1) ∧ wx.cell? ⟨w.heap.size + 1, 4, none⟩ = some (Value.string z.f2.f2) ∧ wx.cell? ⟨w.heap.size + 1, 5, none⟩ = some (Value.bool z.f3.f0) ∧ wx.cell? ⟨w.heap.size + 1, 6, none⟩ = some (Value.int IntKind.i64 z.f3.f1) ∧ wx.cell? ⟨w.heap.size + 1, 7, none⟩ = some (Value.string z.f3.f2) ∧ wx.cell? ⟨g6, 0, none⟩ = some (Value.bool false) ∧ wx.cell? ⟨g6, 1, none⟩ = some (Value.int IntKind.i64 z.f2.f1) ∧ wx.cell? ⟨g6, 2, none⟩ = some (Value.string z.f2.f2) ∧ wx.cell? ⟨g7, 0, none⟩ = some (Value.bool false) ∧ wx.cell? ⟨g7, 1, none⟩ = some (Value.int IntKind.i64 z.f3.f1) ∧ wx.cell? ⟨g7, 2, none⟩ = some (Value.string z.f3.f2) ∧ Aside0 (Below w.heap.size w wx))
  case first =>
    generalize hW : (w.alloc _).alloc _ = W
    have ga0 : W.cell? ⟨w.heap.size, 0, none⟩ = some (Value.int IntKind.i64 a.f0) := by rw [← hW]; simp [go_sem]
    have ga1 : W.cell? ⟨w.heap.size, 1, none⟩ = some (Value.int IntKind.i64 a.f1) := by rw [← hW]; simp [go_sem]
    have ga2 : W.cell? ⟨w.heap.size, 2, none⟩ = some (Value.bool a.f2.f0) := by rw [← hW]; simp [go_sem]
    have ga3 : W.cell? ⟨w.heap.size, 3, none⟩ = some (Value.int IntKind.i64 a.f2.f1) := by rw [← hW]; simp [go_sem]
    have ga4 : W.cell? ⟨w.heap.size, 4, none⟩ = some (Value.string a.f2.f2) := by rw [← hW]; simp [go_sem]
    have gz0 : W.cell? ⟨w.heap.size + 1, 0, none⟩ = some (Value.bool z.f0) := by rw [← hW]; simp [go_sem]
    have gz1 : W.cell? ⟨w.heap.size + 1, 1, none⟩ = some (Value.bool false) := by rw [← hW]; simp [go_sem]
    have gz2 : W.cell? ⟨w.heap.size + 1, 2, none⟩ = some (Value.bool z.f2.f0) := by rw [← hW]; simp [go_sem]
    have gz3 : W.cell? ⟨w.heap.size + 1, 3, none⟩ = some (Value.int IntKind.i64 z.f2.f1) := by rw [← hW]; simp [go_sem]
    have gz4 : W.cell? ⟨w.heap.size + 1, 4, none⟩ = some (Value.string z.f2.f2) := by rw [← hW]; simp [go_sem]
    have gz5 : W.cell? ⟨w.heap.size + 1, 5, none⟩ = some (Value.bool z.f3.f0) := by rw [← hW]; simp [go_sem]
    have gz6 : W.cell? ⟨w.heap.size + 1, 6, none⟩ = some (Value.int IntKind.i64 z.f3.f1) := by rw [← hW]; simp [go_sem]
    have gz7 : W.cell? ⟨w.heap.size + 1, 7, none⟩ = some (Value.string z.f3.f2) := by rw [← hW]; simp [go_sem]
    have BW : Aside0 (Below w.heap.size w W) := ⟨by rw [← hW]; exact below_alloc (below_alloc (Below.refl _ _) _) _⟩
    clear hW
    go_region_held3 (fun w' => w'.cell? ⟨w.heap.size + 1, 2, none⟩ = some (Value.bool z.f2.f0) ∧ w'.cell? ⟨w.heap.size + 1, 3, none⟩ = some (Value.int IntKind.i64 z.f2.f1) ∧ w'.cell? ⟨w.heap.size + 1, 4, none⟩ = some (Value.string z.f2.f2) ∧ w'.cell? ⟨w.heap.size + 1, 5, none⟩ = some (Value.bool z.f3.f0) ∧ w'.cell? ⟨w.heap.size + 1, 6, none⟩ = some (Value.int IntKind.i64 z.f3.f1) ∧ w'.cell? ⟨w.heap.size + 1, 7, none⟩ = some (Value.string z.f3.f2)) ((repeat' apply And.intro) <;> (repeat (with_reducible (first | assumption | refine cell_dr ?_ | refine cell_al _ ?_))))
      (first | (go_at_call 69; refine (bare11.exact _ _ _ _).mono ?_; rintro e w' ⟨rfl, rfl⟩))
    all_goals
      go_wp2_with fail
      go_meet
      refine ⟨_, _, rfl, rfl, ?_, ?_, ?_, ?_, ?_, ?_, ?_, ?_, ?_, ?_, ?_, ?_, ?_, ?_, ?_, ?_, ?_, ?_, ?_, ?_⟩
      iterate 13 (· (repeat (with_reducible (first | assumption | refine cell_dr ?_ | refine cell_al _ ?_))))
      iterate 6 (· ((with_reducible refine cell_dr ?_); first | (refine new_cell _ _ _ _ ?_ rfl; simp; done) | ((with_reducible refine cell_al _ ?_); first | (refine new_cell _ _ _ _ ?_ rfl; simp; done) | ((with_reducible refine cell_al _ ?_); first | (refine new_cell _ _ _ _ ?_ rfl; simp; done) | ((with_reducible refine cell_al _ ?_); first | (refine new_cell _ _ _ _ ?_ rfl; simp; done) | ((with_reducible refine cell_al _ ?_); first | (refine new_cell _ _ _ _ ?_ rfl; simp; done) | ((with_reducible refine cell_al _ ?_); (refine new_cell _ _ _ _ ?_ rfl; simp; done))))))))
      · (refine AB_drew ?_; (repeat (with_reducible refine AB_al ?_ _)); assumption)
  case rest =>
    obtain ⟨g6, g7, rfl, rfl, ga0, ga1, ga2, ga3, ga4, gz0, gz1, gz2, gz3, gz4, gz5, gz6, gz7, l0, l1, l2, m0, m1, m2, HB⟩ := hcut
    rename_i wc
    by_cases o0 : a.f0 = 0
    · have HR : Aside0 (rmayV a z x1 x2 x3 = (z.f0 || z.f1)) := ⟨by simp [rmayV, o0]⟩
      have d0 : (a.f0 == 0) = true := by simp [o0]
      clear o0 H1 H2 H3
      cases h0 : z.f0 <;> go_wp2_with fail
      all_goals
        go_ret
        exact ⟨by rw [HR.out, h0, HH1.out]; rfl, HB.out⟩
    have d0 : (a.f0 == 0) = false := by simpa using o0
    by_cases o1 : a.f0 = 1
    · have HR : Aside0 (rmayV a z x1 x2 x3 = (z.f1 && !a.f2.f0 && !x1 && !x2)) := ⟨by simp [rmayV, o1]⟩
      have d1 : (a.f0 == 1) = true := by simp [o1]
      clear o0 o1 H3
      go_wp2_with fail
      go_ret
      exact ⟨by rw [HR.out, HH1.out]; simp, HB.out⟩
    have d1 : (a.f0 == 1) = false := by simpa using o1
    by_cases o2 : a.f0 = 2
    · have HR : Aside0 (rmayV a z x1 x2 x3 = (z.f1 && !a.f2.f0 && x3)) := ⟨by simp [rmayV, o2]⟩
      have d2 : (a.f0 == 2) = true := by simp [o2]
      clear o0 o1 o2 H1 H2
      go_wp2_with fail
      go_ret
      exact ⟨by rw [HR.out, HH1.out]; simp, HB.out⟩
    have d2 : (a.f0 == 2) = false := by simpa using o2
    by_cases o3 : a.f0 = 3
    · have HR : Aside0 (rmayV a z x1 x2 x3 = (z.f1 && !a.f2.f0 && !x2)) := ⟨by simp [rmayV, o3]⟩
      have d3 : (a.f0 == 3) = true := by simp [o3]
      clear o0 o1 o2 o3 H1 H3
      go_wp2_with fail
      go_ret
      exact ⟨by rw [HR.out, HH1.out]; simp, HB.out⟩
    have d3 : (a.f0 == 3) = false := by simpa using o3
    by_cases o4 : a.f0 = 4
    · have HR : Aside0 (rmayV a z x1 x2 x3 = z.f0) := ⟨by simp [rmayV, o4]⟩
      have d4 : (a.f0 == 4) = true := by simp [o4]
      clear o0 o1 o2 o3 o4 H1 H2 H3
      go_wp2_with fail
      go_ret
      exact ⟨by first | (rw [HR.out]; done) | (rw [HR.out]; rfl), HB.out⟩
    have d4 : (a.f0 == 4) = false := by simpa using o4
    by_cases o5 : a.f0 = 5
    · have HR : Aside0 (rmayV a z x1 x2 x3 = z.f1) := ⟨by simp [rmayV, o5]⟩
      have d5 : (a.f0 == 5) = true := by simp [o5]
      clear o0 o1 o2 o3 o4 o5 H1 H2 H3
      go_wp2_with fail
      go_ret
      exact ⟨by first | (rw [HR.out, HH1.out]; done) | (rw [HR.out, HH1.out]; rfl), HB.out⟩
    have d5 : (a.f0 == 5) = false := by simpa using o5
    have HR : Aside0 (rmayV a z x1 x2 x3 = false) := ⟨by simp [rmayV, o0, o1, o2, o3, o4, o5]⟩
    clear o0 o1 o2 o3 o4 o5 H1 H2 H3
    go_wp2_with fail
    go_ret
    exact ⟨by first | (rw [HR.out]; done) | (rw [HR.out]; rfl), HB.out⟩
end Go.Proofs.YtglcajijmkianaaDoor.A
