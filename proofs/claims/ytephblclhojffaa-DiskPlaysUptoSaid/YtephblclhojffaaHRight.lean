/- Which names may be: the program's right. -/
import Derived.Test.YtephblclhojffaaAx0
import Derived.Test.YtephblclhojffaaHCall
namespace Go.Proofs.Ytephblclhojffaa.A
open Go.RowKit Go.Proofs.YtephblclhojffaaW.PrintWords Go.Proofs.YtephblclhojffaaW.PrintLast Go.Proofs.YtephblclhojffaaW.PrintMore
set_option linter.unusedVariables false
set_option linter.unusedSimpArgs false

theorem rightC_iff (c : UInt8) : rightC c = (decide (97 ≤ c.toNat) && decide (c.toNat ≤ 122) || decide (48 ≤ c.toNat) && decide (c.toNat ≤ 57) || decide (c.toNat = 46)) := by
  unfold rightC
  have e1 : (97 ≤ c) ↔ (97 ≤ c.toNat) := by rw [UInt8.le_iff_toNat_le]; rfl
  have e2 : (c ≤ 122) ↔ (c.toNat ≤ 122) := by rw [UInt8.le_iff_toNat_le]; rfl
  have e3 : (48 ≤ c) ↔ (48 ≤ c.toNat) := by rw [UInt8.le_iff_toNat_le]; rfl
  have e4 : (c ≤ 57) ↔ (c.toNat ≤ 57) := by rw [UInt8.le_iff_toNat_le]; rfl
  have e5 : (c = 46) ↔ (c.toNat = 46) := ⟨fun h => by rw [h]; rfl, fun h => UInt8.toNat_inj.1 h⟩
  rw [Bool.eq_iff_iff]
  simp [e1, e2, e3, e4, e5]
def FirstOk (s : ByteArray) (k : Nat) : Prop := ∀ j, j < k → rightC (s.data.toList.getD j 0) = true
theorem FirstOk.all {s : ByteArray} (h : FirstOk s s.size) : s.data.toList.all rightC = true := by
  rw [List.all_eq_true]
  intro x hx
  obtain ⟨i, hi, rfl⟩ := List.getElem_of_mem hx
  have hl : i < s.size := by simpa using hi
  have := h i hl
  rwa [List.getD_eq_getElem?_getD, List.getElem?_eq_getElem hi] at this
theorem not_all {s : ByteArray} {k : Nat} (hk : k < s.size) (h : rightC (s.data.toList.getD k 0) = false) : rightB s.data.toList = false := by
  have hl : k < s.data.toList.length := by simpa using hk
  unfold rightB
  have : s.data.toList.all rightC = false := by
    rw [List.all_eq_false]
    rw [List.getD_eq_getElem?_getD, List.getElem?_eq_getElem hl] at h
    exact ⟨_, List.getElem_mem hl, by rw [show s.data.toList[k] = (some s.data.toList[k]).getD 0 from rfl, h]; simp⟩
  simp [this]

set_option maxHeartbeats 2000000 in
theorem right.calls (s : ByteArray) (hs : s.size ≤ 9223372036854775807) (w : World) :
    Calls Try.prog 53 #[.string s] w fun e w' => e = .returned (.bool (rightB s.data.toList)) ∧ Below w.heap.size w w' := by
  have kb := fun W => print_bytes (P := Try.prog) 9 57 5 Try.underlying9 Try.underlying57 Try.underlying5 s W
  have HBW := Aside0.mk (bytes_below (Below.refl w.heap.size w) (Nat.le_refl _) 5 s)
  have HC := Aside0.mk (Lib.bytesWorld_cell w 5 s)
  go_enter Try.func53, Try.ntmps53
  go_wp2
  generalize Lib.bytesWorld w 5 s = W1 at HBW HC
  generalize grownCap w s.size 0 5 = cap
  go_loop [8] (fun i => ∃ k : Nat, k ≤ s.size ∧ i = .int .i64 k ∧ Aside0 (FirstOk s k)) (fun i => s.size - (intOf i).toNat)
  case atStart => exact ⟨0, Nat.zero_le _, rfl, ⟨fun j hj => absurd hj (Nat.not_lt_zero _)⟩⟩
  case round =>
    obtain ⟨k, hk, rfl, HF⟩ := hrel
    by_cases hlt : k < s.size
    · have hcell := HC.out k hlt
      have hC : ∃ c : UInt8, c = s.data.toList.getD k 0 := ⟨_, rfl⟩
      obtain ⟨c, hc⟩ := hC
      rw [← hc] at hcell
      have HCc := Aside0.mk hc
      have hri := Aside0.mk (rightC_iff c)
      have hb := c.toNat_lt
      generalize hn : c.toNat = n at hcell hri hb
      clear hc hn
      have next : rightC c = true → FirstOk s (k + 1) := fun h j hj => by
        rcases Nat.lt_or_ge j k with h1 | h1
        · exact HF.out j h1
        · obtain rfl : j = k := by omega
          rw [← HCc.out]; exact h
      have stop : rightC c = false → rightB s.data.toList = false := fun h => not_all hlt (by rw [← HCc.out]; exact h)
      have HN := Aside0.mk next
      have HS := Aside0.mk stop
      clear next stop
      have hltz : decide ((k : Int) < (s.size : Int)) = true := by simpa using hlt
      have k0 : (0 : Int) ≤ (k : Int) := by omega
      by_cases h48 : n < 48
      · have a1 : decide ((n : Int) < 97) = true := by rw [decide_eq_true_eq]; omega
        have a2 : decide ((n : Int) < 48) = true := by rw [decide_eq_true_eq]; omega
        by_cases h46 : n = 46
        · have hr : rightC c = true := by rw [hri.out]; subst h46; rfl
          have H := Aside0.mk (HN.out hr)
          have a3 : ((n : Int) != 46) = false := by rw [bne_eq_false_iff_eq]; omega
          clear h46 hr
          go_wp2
          go_round
          case rel => exact ⟨k + 1, by omega, by go_num, H⟩
          case measure => simp [intOf]; omega
        · have hr : rightC c = false := by rw [hri.out]; simp; omega
          have H := Aside0.mk (HS.out hr)
          have a3 : ((n : Int) != 46) = true := by rw [bne_iff_ne]; omega
          clear h46 hr
          go_wp2
          go_ret
          exact ⟨by rw [H.out]; rfl, HBW.out⟩
      · have a2 : decide ((n : Int) < 48) = false := by rw [decide_eq_false_iff_not]; omega
        by_cases h57 : n ≤ 57
        · have hr : rightC c = true := by rw [hri.out]; simp; omega
          have H := Aside0.mk (HN.out hr)
          have a1 : decide ((n : Int) < 97) = true := by rw [decide_eq_true_eq]; omega
          have a3 : decide (57 < (n : Int)) = false := by rw [decide_eq_false_iff_not]; omega
          clear hr
          go_wp2
          go_round
          case rel => exact ⟨k + 1, by omega, by go_num, H⟩
          case measure => simp [intOf]; omega
        · have a3 : decide (57 < (n : Int)) = true := by rw [decide_eq_true_eq]; omega
          have a5 : ((n : Int) != 46) = true := by rw [bne_iff_ne]; omega
          by_cases h97 : n < 97
          · have hr : rightC c = false := by rw [hri.out]; simp; omega
            have H := Aside0.mk (HS.out hr)
            have a1 : decide ((n : Int) < 97) = true := by rw [decide_eq_true_eq]; omega
            clear hr
            go_wp2
            go_ret
            exact ⟨by rw [H.out]; rfl, HBW.out⟩
          · have a1 : decide ((n : Int) < 97) = false := by rw [decide_eq_false_iff_not]; omega
            by_cases h122 : n ≤ 122
            · have hr : rightC c = true := by rw [hri.out]; simp; omega
              have H := Aside0.mk (HN.out hr)
              have a4 : decide (122 < (n : Int)) = false := by rw [decide_eq_false_iff_not]; omega
              clear hr
              go_wp2
              go_round
              case rel => exact ⟨k + 1, by omega, by go_num, H⟩
              case measure => simp [intOf]; omega
            · have hr : rightC c = false := by rw [hri.out]; simp; omega
              have H := Aside0.mk (HS.out hr)
              have a4 : decide (122 < (n : Int)) = true := by rw [decide_eq_true_eq]; omega
              clear hr
              go_wp2
              go_ret
              exact ⟨by rw [H.out]; rfl, HBW.out⟩
    · obtain rfl : k = s.size := by omega
      have hall := Aside0.mk HF.out.all
      have hlen : s.data.toList.length = s.size := by simp
      by_cases h0 : s.size = 0
      · have hnil : s.toList = [] := by
          rw [ByteArray.toList_eq]; exact List.eq_nil_of_length_eq_zero (by omega)
        have H := Aside0.mk (show rightB s.data.toList = false by unfold rightB; rw [show decide (1 ≤ s.data.toList.length) = false by rw [decide_eq_false_iff_not]; omega]; simp)
        have hemp : (!s.toList.isEmpty) = false := by simp [hnil]
        clear h0 hlen
        go_wp2
        go_ret
        exact ⟨by rw [H.out]; rfl, HBW.out⟩
      · have hnil : s.toList ≠ [] := by
          rw [ByteArray.toList_eq]; intro e; rw [e] at hlen; simp at hlen; omega
        have hemp : (!s.toList.isEmpty) = true := by simpa using hnil
        by_cases h12 : s.size ≤ 12
        · have H := Aside0.mk (show rightB s.data.toList = true by unfold rightB; rw [hall.out, hlen]; simp; omega)
          have a1 : decide ((s.size : Int) ≤ 12) = true := by rw [decide_eq_true_eq]; omega
          clear h0 hlen
          go_wp2
          go_ret
          exact ⟨by rw [H.out]; rfl, HBW.out⟩
        · have H := Aside0.mk (show rightB s.data.toList = false by unfold rightB; rw [hall.out, hlen]; simp; omega)
          have a1 : decide ((s.size : Int) ≤ 12) = false := by rw [decide_eq_false_iff_not]; omega
          clear h0 hlen
          go_wp2
          go_ret
          exact ⟨by rw [H.out]; rfl, HBW.out⟩
end Go.Proofs.Ytephblclhojffaa.A
