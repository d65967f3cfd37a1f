/- Which asks may be; on every ask. -/
import Derived.Test.YtglcajijmkianaaDoorAx0
import Derived.Test.YtglcajijmkianaaDoorAx1
import Derived.Test.YtglcajijmkianaaDoorAx2
import Derived.Test.YtglcajijmkianaaDoorHLib
namespace Go.Proofs.YtglcajijmkianaaDoor.A
open Go.RowKit Go.Proofs.YtglcajijmkianaaDoorW.PrintWords Go.Proofs.YtglcajijmkianaaDoorW.PrintLast Go.Proofs.YtglcajijmkianaaDoorW.PrintMore
open Go.Lib
set_option linter.unusedVariables false
set_option linter.unusedSimpArgs false
attribute [local go_sem high] eqA23

def blankP (r : Nat) : Bool := r == 32 || (r == 9 || (r == 10 || r == 13))
theorem blank_some (r : Nat) : query_blank.f (r : Int) = some (blankP r) := by
  unfold query_blank.f blankP
  by_cases h1 : r = 32
  · simp [h1]
  · by_cases h2 : r = 9
    · simp [h2]
    · by_cases h3 : r = 10
      · simp [h3]
      · rw [if_neg (by omega), if_neg (by omega), if_neg (by omega)]
        by_cases h4 : r = 13
        · simp [h4]
        · have : ¬ ((r : Int) = 13) := by omega
          rw [show ((r : Int) == 13) = false from by simpa using this]
          simp [h1, h2, h3, h4]
theorem blank_pred (w : World) : PredAt Tryd.prog 30 #[] encR blankP w := fun W r _ => by
  unfold FnGives
  refine (show Calls _ _ #[_] _ _ from query_blank.calls (r : Int) (blankP r) W (blank_some r)).mono ?_
  rintro e w' ⟨rfl, ⟨n, rfl⟩⟩
  exact ⟨rfl, n, rfl⟩
theorem eg_blank : ∀ args w, (callFunc 30 args).run Tryd.prog w = .ok (.enter 30 args) w := Go.Proofs.enters_of Tryd.func30 (by kernel_rfl) rfl

def rightAskF (a : S25) : Bool :=
  if a.f0 < 1 ∨ 5 < a.f0 ∨ a.f1 < 0 ∨ 6 ≤ a.f1 then false
  else if 4 ≤ a.f0 then (!a.f2.f0 && (a.f2.f1 == 0 && a.f2.f2.toList.isEmpty))
  else if a.f2.f0 = true then false else if (a.f2.f1 == 0) = false ∧ a.f2.f2.toList.isEmpty = false then false else if 64 < a.f2.f2.size then false else !(decide (0 ≤ Lib.idxFunc blankP true a.f2.f2))

set_option maxRecDepth 100000 in
set_option maxHeartbeats 8000000 in
theorem rightAsk.calls (a : S25) (w : World) :
    Calls Tryd.prog 46 #[.agg #[.int .i64 a.f0, .int .i64 a.f1, .bool a.f2.f0, .int .i64 a.f2.f1, .string a.f2.f2]] w fun e w' => e = .returned (.bool (rightAskF a)) ∧ Below w.heap.size w w' := by
  obtain ⟨op, col, ⟨nul, num, txt⟩⟩ := a
  simp only
  have hu25 := Tryd.underlying25
  have hu23 := Tryd.underlying23
  obtain ⟨res, hres⟩ : ∃ r, rightAskF ⟨op, col, ⟨nul, num, txt⟩⟩ = r := ⟨_, rfl⟩
  rw [hres]
  have HRES := Aside0.mk hres
  clear hres
  have hcf := fun W => Tryd.strings_ContainsFunc 30 #[] eg_blank blankP txt W (blank_pred W)
  have HCF := Aside0.mk hcf
  clear hcf
  by_cases o1 : op < 1
  · have d1 : decide (op < 1) = true := decide_eq_true o1
    have HR : Aside0 (res = false) := ⟨by rw [← HRES.out]; simp [rightAskF, o1]⟩
    clear o1 HRES
    go_enter Tryd.func46, Tryd.ntmps46
    go_wp2_with fail
    go_ret
    exact ⟨by rw [HR.out]; rfl, below_alloc (Below.refl _ _) _⟩
  have d1 : decide (op < 1) = false := decide_eq_false o1
  by_cases o2 : 5 < op
  · have d2 : decide (5 < op) = true := decide_eq_true o2
    have HR : Aside0 (res = false) := ⟨by rw [← HRES.out]; simp [rightAskF, o2]⟩
    clear o1 o2 HRES
    go_enter Tryd.func46, Tryd.ntmps46
    go_wp2_with fail
    go_ret
    exact ⟨by rw [HR.out]; rfl, below_alloc (Below.refl _ _) _⟩
  have d2 : decide (5 < op) = false := decide_eq_false o2
  by_cases o3 : col < 0
  · have d3 : decide (col < 0) = true := decide_eq_true o3
    have HR : Aside0 (res = false) := ⟨by rw [← HRES.out]; simp [rightAskF, o3]⟩
    clear o1 o2 o3 HRES
    go_enter Tryd.func46, Tryd.ntmps46
    go_wp2_with fail
    go_ret
    exact ⟨by rw [HR.out]; rfl, below_alloc (Below.refl _ _) _⟩
  have d3 : decide (col < 0) = false := decide_eq_false o3
  by_cases o4 : 6 ≤ col
  · have d4 : decide (6 ≤ col) = true := decide_eq_true o4
    have HR : Aside0 (res = false) := ⟨by rw [← HRES.out]; simp [rightAskF, o4]⟩
    clear o1 o2 o3 o4 HRES
    go_enter Tryd.func46, Tryd.ntmps46
    go_wp2_with fail
    go_ret
    exact ⟨by rw [HR.out]; rfl, below_alloc (Below.refl _ _) _⟩
  have d4 : decide (6 ≤ col) = false := decide_eq_false o4
  have HR : Aside0 (res = (if 4 ≤ op then (!nul && (num == 0 && txt.toList.isEmpty)) else if nul = true then false else if (num == 0) = false ∧ txt.toList.isEmpty = false then false else if 64 < txt.size then false else !(decide (0 ≤ Lib.idxFunc blankP true txt)))) := ⟨by rw [← HRES.out]; simp only [rightAskF]; rw [if_neg (by omega)]⟩
  clear o1 o2 o3 o4 HRES
  by_cases o5 : 4 ≤ op
  · have d5 : decide (4 ≤ op) = true := decide_eq_true o5
    have HR2 : Aside0 (res = (!nul && (num == 0 && txt.toList.isEmpty))) := ⟨by rw [HR.out, if_pos o5]⟩
    clear o5 HR
    go_enter Tryd.func46, Tryd.ntmps46
    go_wp2_with fail
    go_ret
    exact ⟨by rw [HR2.out]; rfl, by repeat (first | exact below_alloc (Below.refl _ _) _ | apply pw_below_drewN | apply below_drew1)⟩
  have d5 : decide (4 ≤ op) = false := decide_eq_false o5
  have HR := Aside0.mk (HR.out.trans (if_neg o5))
  clear o5
  cases nul with
  | true =>
    have HR2 : Aside0 (res = false) := ⟨by rw [HR.out, if_pos rfl]⟩
    clear HR
    go_enter Tryd.func46, Tryd.ntmps46
    go_wp2_with fail
    go_ret
    exact ⟨by rw [HR2.out]; rfl, below_alloc (Below.refl _ _) _⟩
  | false =>
    have HR := Aside0.mk (HR.out.trans (if_neg (by simp)))
    cases n0 : (num == 0) with
    | false =>
      cases t0 : txt.toList.isEmpty with
      | false =>
        have HR2 : Aside0 (res = false) := ⟨by rw [HR.out, n0, t0, if_pos ⟨rfl, rfl⟩]⟩
        have t1 : (txt.toList == []) = false := by rw [← t0]; cases txt.toList <;> rfl
        clear HR
        go_enter Tryd.func46, Tryd.ntmps46
        go_wp2_with fail
        go_ret
        exact ⟨by rw [HR2.out]; rfl, below_alloc (Below.refl _ _) _⟩
      | true =>
        have t2 : txt.toList = [] := by simpa using t0
        have sz : txt.size = 0 := by rw [← data_length, ← ByteArray.toList_eq, t2]; rfl
        have HR2 : Aside0 (res = !(decide (0 ≤ Lib.idxFunc blankP true txt))) := ⟨by rw [HR.out, n0, t0, if_neg (by simp), if_neg (by omega)]⟩
        have z1 : decide ((txt.size : Int) ≤ 64) = true := decide_eq_true (by omega)
        have z2 : decide (txt.size ≤ 64) = true := decide_eq_true (by omega)
        generalize decide (0 ≤ Lib.idxFunc blankP true txt) = ans at HR2 HCF
        clear HR sz t2
        go_enter Tryd.func46, Tryd.ntmps46
        go_wp2_with (go_at_call 70; refine (HCF.out _).mono ?_; rintro e w' ⟨rfl, hb'⟩)
        go_ret
        exact ⟨by rw [HR2.out]; rfl, (below_alloc (Below.refl _ _) _).trans (hb'.mono (by simp))⟩
    | true =>
      by_cases sz : 64 < txt.size
      · have HR2 : Aside0 (res = false) := ⟨by rw [HR.out, n0, if_neg (by simp), if_pos sz]⟩
        have z1 : decide ((txt.size : Int) ≤ 64) = false := decide_eq_false (by omega)
        have z2 : decide (txt.size ≤ 64) = false := decide_eq_false (by omega)
        clear HR sz
        go_enter Tryd.func46, Tryd.ntmps46
        go_wp2_with fail
        go_ret
        exact ⟨by rw [HR2.out]; rfl, below_alloc (Below.refl _ _) _⟩
      · have HR2 : Aside0 (res = !(decide (0 ≤ Lib.idxFunc blankP true txt))) := ⟨by rw [HR.out, n0, if_neg (by simp), if_neg sz]⟩
        have z1 : decide ((txt.size : Int) ≤ 64) = true := decide_eq_true (by omega)
        have z2 : decide (txt.size ≤ 64) = true := decide_eq_true (by omega)
        generalize decide (0 ≤ Lib.idxFunc blankP true txt) = ans at HR2 HCF
        clear HR sz
        go_enter Tryd.func46, Tryd.ntmps46
        go_wp2_with (go_at_call 70; refine (HCF.out _).mono ?_; rintro e w' ⟨rfl, hb'⟩)
        go_ret
        exact ⟨by rw [HR2.out]; rfl, (below_alloc (Below.refl _ _) _).trans (hb'.mono (by simp))⟩
end Go.Proofs.YtglcajijmkianaaDoor.A
