/- The reference's bytes of a text. -/
import Derived.Test.YtimjafjicnlhfaaKbAx0
import Derived.Test.YtimjafjicnlhfaaKbHRUint
namespace Go.Proofs.Ytimjafjicnlhfaa.A
open Go.RowKit Go.Proofs.YtimjafjicnlhfaaW.PrintWords Go.Proofs.YtimjafjicnlhfaaW.PrintLast Go.Proofs.YtimjafjicnlhfaaW.PrintMore
set_option linter.unusedVariables false
set_option linter.unusedSimpArgs false
theorem ba_ext2 {s t : ByteArray} (h : s.data.toList = t.data.toList) : s = t := by
  cases s; cases t
  congr 1
  exact Array.toList_inj.1 h
theorem bytesOf_back (s : ByteArray) : strOfNums (bytesOf s) = s := by
  apply ba_ext2
  rw [strOfNums_data, bytesOf, List.map_map]
  conv => rhs; rw [← List.map_id s.data.toList]
  apply List.map_congr_left
  intro b _
  simp
theorem strOfNums_append (a b : List Int) : strOfNums (a ++ b) = strOfNums a ++ strOfNums b := by
  apply ba_ext2
  rw [strOfNums_data, ByteArray.data_append, Array.toList_append, strOfNums_data, strOfNums_data, List.map_append]
def tithebarnref01_Text.f (a0 : ByteArray) : Option ByteArray := if a0.size ≤ 140737488351232 then some (strOfNums (textB a0)) else none
set_option maxHeartbeats 4000000 in
theorem tithebarnref01_Text.calls (a0 : ByteArray) (r : ByteArray) (w : World) (h : tithebarnref01_Text.f a0 = some r) :
    Calls Try.prog 28 #[.string a0] w fun e w' => e = .returned (.string r) ∧ Below w.heap.size w w' := by
  unfold tithebarnref01_Text.f at h
  by_cases hs : a0.size ≤ 140737488351232
  · rw [if_pos hs] at h
    have h := Option.some.inj h
    subst h
    have hw : IntKind.u64.wrap (a0.size : Int) = (a0.size : Int) := IntWalk.u64_in _ (by omega)
    have huc := tithebarnref01_Uint.calls (a0.size : Int) (strOfNums (uintB a0.size)) w (by unfold tithebarnref01_Uint.f; rw [if_pos (by omega)])
    have hul := uintB_length (a0.size : Int)
    have HU := Aside0.mk huc
    have hsz : (strOfNums (uintB (a0.size : Int))).size ≤ 9 := by rw [strOfNums_size]; exact hul
    have hfin : strOfNums (textB a0) = strOfNums (uintB (a0.size : Int)) ++ a0 := by unfold textB; rw [strOfNums_append, bytesOf_back]
    rw [hfin]
    clear huc hul hfin
    generalize strOfNums (uintB (a0.size : Int)) = u at *
    have c3b0 : (u.size + a0.size ≤ 9223372036854775807) = True := eq_true (by omega)
    have c3b1 : decide (u.size + a0.size ≤ 9223372036854775807) = true := decide_eq_true (by omega)
    have c3b2 : (9223372036854775807 < u.size + a0.size) = False := eq_false (by omega)
    go_enter Try.func28, Try.ntmps28
    go_wp2_with fail
    refine HU.out.mono ?_
    rintro e w1 ⟨rfl, hb1⟩
    have HB1 := Aside0.mk hb1
    clear hb1
    go_wp2_with fail
    go_ret
    exact ⟨rfl, HB1.out⟩
  · rw [if_neg hs] at h
    exact absurd h (by simp)
end Go.Proofs.Ytimjafjicnlhfaa.A
