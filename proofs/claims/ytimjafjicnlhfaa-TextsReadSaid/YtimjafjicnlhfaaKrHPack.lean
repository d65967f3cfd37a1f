/- bits.Pack. -/
import Derived.Test.YtimjafjicnlhfaaKrAx0
import Derived.Test.YtimjafjicnlhfaaKrAx2
import Derived.Test.YtimjafjicnlhfaaKrAx4
import Derived.Test.YtimjafjicnlhfaaKrHBits
namespace Go.Proofs.Ytimjafjicnlhfaa.A
open Go.RowKit Go.Proofs.YtimjafjicnlhfaaW.PrintWords Go.Proofs.YtimjafjicnlhfaaW.PrintLast Go.Proofs.YtimjafjicnlhfaaW.PrintMore
set_option linter.unusedVariables false
set_option linter.unusedSimpArgs false
def allBits (w : Nat) (l : List Int) : List Bool := l.flatMap (fun n => bitsI n w)
theorem allBits_length (w : Nat) : ∀ l : List Int, (allBits w l).length = l.length * w
  | [] => by simp [allBits]
  | x :: l => by
    have := allBits_length w l
    simp only [allBits, List.flatMap_cons, List.length_append, bitsI_length, List.length_cons] at this ⊢
    rw [this, Nat.succ_mul]
    omega
theorem allBits_take (w : Nat) (l : List Int) (j : Nat) (hj : j < l.length) : allBits w (l.take (j + 1)) = allBits w (l.take j) ++ bitsI (l.getD j 0) w := by
  unfold allBits
  rw [List.take_add_one, List.getElem?_eq_getElem hj, List.flatMap_append]
  simp [List.getD, List.getElem?_eq_getElem hj]
def bits_Pack.f (l : List Int) (w : Int) : Option (ByteArray × Int) :=
  if (∀ x ∈ l, 0 ≤ x ∧ x < 18446744073709551616) ∧ l.length ≤ 1048576 then
    if w < 0 ∨ 64 < w then some (⟨#[]⟩, 1) else (bits_Width.f (l.length + 9) l).bind fun v => if v > w then some (⟨#[]⟩, 4) else some (strOfNums (packB (allBits w.toNat l)), 0)
  else none
set_option maxHeartbeats 4000000 in
set_option maxRecDepth 100000 in
theorem bits_Pack.calls (A0 : Option Addr) (c0 : Nat) (l0 : List Int) (a1 : Int) (r1 : ByteArray) (r2 : Int) (w : World) (hr0 : Kd.C (Kd.int .u64) w A0 l0.length l0) (hc0 : l0.length ≤ c0) (h : bits_Pack.f l0 a1 = some (r1, r2)) :
    Calls Try.prog 25 #[.slice A0 l0.length c0, .int .i64 a1] w fun e w' => e = .returned (.tuple #[.string r1, .int .i64 r2]) ∧ Below w.heap.size w w' := by
  unfold bits_Pack.f at h
  by_cases hok : (∀ x ∈ l0, 0 ≤ x ∧ x < 18446744073709551616) ∧ l0.length ≤ 1048576
  · rw [if_pos hok] at h
    have hu := Try.underlying74
    have hu2 := Try.underlying45
    by_cases hw : a1 < 0
    · rw [if_pos (.inl hw)] at h
      have g1 : decide (a1 < 0) = true := decide_eq_true hw
      injection h with h
      injection h with e1 e2
      subst e1; subst e2
      go_enter Try.func25, Try.ntmps25
      go_wp2_with fail
      go_ret2
      exact ⟨rfl, Below.refl _ _⟩
    · have g1 : decide (a1 < 0) = false := decide_eq_false hw
      by_cases hw2 : 64 < a1
      · rw [if_pos (.inr hw2)] at h
        have g2 : decide (64 < a1) = true := decide_eq_true hw2
        injection h with h
        injection h with e1 e2
        subst e1; subst e2
        go_enter Try.func25, Try.ntmps25
        go_wp2_with fail
        go_ret2
        exact ⟨rfl, Below.refl _ _⟩
      · rw [if_neg (fun e => e.elim hw hw2)] at h
        have g2 : decide (64 < a1) = false := decide_eq_false hw2
        obtain ⟨v, hv, h⟩ := Option.bind_eq_some_iff.mp h
        have hwc := fun W (hK : Kd.C (Kd.int .u64) W A0 l0.length l0) => bits_Width.calls (l0.length + 9) A0 c0 l0 v W hK hc0 hv
        by_cases hv2 : v > a1
        · rw [if_pos hv2] at h
          have g3 : decide (a1 < v) = true := decide_eq_true hv2
          injection h with h
          injection h with e1 e2
          subst e1; subst e2
          have HWC := Aside0.mk hwc; have HR := Aside0.mk hr0
          clear hwc hv
          go_enter Try.func25, Try.ntmps25
          go_wp2_with fail
          refine (HWC.out _ HR.out).mono ?_
          rintro e w1 ⟨rfl, ⟨q, rfl⟩⟩
          go_wp2_with fail
          go_ret2
          exact ⟨rfl, by first | exact Below.refl _ _ | (apply pw_below_drewN; exact Below.refl _ _)⟩
        · rw [if_neg hv2] at h
          have g3 : decide (a1 < v) = false := decide_eq_false hv2
          injection h with h
          injection h with e1 e2
          subst e1; subst e2
          obtain ⟨wn, hwn⟩ : ∃ wn : Nat, a1 = (wn : Int) := ⟨a1.toNat, by omega⟩
          subst hwn
          have hw64 : wn ≤ 64 := by omega
          rw [Int.toNat_natCast]
          have HWC := Aside0.mk hwc; have HR := Aside0.mk hr0; have HOK := Aside0.mk hok; have HW := Aside0.mk hw64
          have hbig := hok.2
          clear hwc hv hok hw hw2 hv2 hw64
          go_enter Try.func25, Try.ntmps25
          go_wp2_with fail
          refine (HWC.out _ HR.out).mono ?_
          rintro e w1 ⟨rfl, ⟨q, rfl⟩⟩
          have HB1 : Aside0 (Below w.heap.size w (w.drewN q)) := ⟨by apply pw_below_drewN; exact Below.refl _ _⟩
          generalize w.drewN q = w1 at *
          clear HWC
          go_wp2_with fail
          have HB2 : Aside0 (Below w.heap.size w (w1.alloc (.cells #[.slice none 0 0, .int .i64 0] 74))) := ⟨HB1.out.alloc HB1.out.size _⟩
          have HK2 : Aside0 ((w1.alloc (.cells #[.slice none 0 0, .int .i64 0] 74)).heap[w1.heap.size]? = some (.cells #[.slice none 0 0, .int .i64 0] 74 (0, 0))) := ⟨by simpa using heap_alloc_new w1 (.cells #[.slice none 0 0, .int .i64 0] 74)⟩
          have HG := Aside0.mk HB1.out.size
          generalize w1.heap.size = g at *
          generalize (w1.alloc (.cells #[.slice none 0 0, .int .i64 0] 74)) = w2 at *
          clear HB1 w1
          go_loopg [25] l0.length (fun gg s25 wr => ∃ (j : Nat) (v1 : Value), j ≤ l0.length ∧ l0.length - j ≤ gg ∧ s25 = .int .i64 j ∧ Aside0 (Below w.heap.size w wr) ∧
            Aside0 (wr.heap[g]? = some (.cells #[v1, .int .i64 (allBits wn (l0.take j)).length] 74 (0, 0))) ∧ Aside0 (Kd.R (Kd.int .u8) 5 wr w.heap.size (fun _ => True) v1 (packB (allBits wn (l0.take j)))))
          case atStart => exact ⟨0, .slice none 0 0, by omega, by omega, rfl, HB2, ⟨HK2.out⟩, ⟨by rw [show allBits wn (l0.take 0) = [] from rfl, packB_nil]; exact Kd.R_nil _ _ _ _ _⟩⟩
          case round =>
            obtain ⟨j, v1, hj, hgg, rfl, HB3, HK3, HR3⟩ := hrel
            by_cases hlt : j < l0.length
            · have hltz : decide ((j : Int) < (l0.length : Int)) = true := decide_eq_true (by omega)
              obtain ⟨ad, e, hx⟩ := Kd.at_int HR.out (j : Int) (by omega) (by omega)
              cases e
              replace hx := (HB3.out.cell (World.block_lt_of_cell? w _ hx)).trans hx
              have hxr : 0 ≤ rd l0 (j : Int) ∧ rd l0 (j : Int) < 18446744073709551616 := by
                have : rd l0 (j : Int) = l0[j] := by simp [rd, hlt]
                rw [this]
                exact HOK.out.1 _ (List.getElem_mem hlt)
              have hxe : rd l0 (j : Int) = l0.getD j 0 := by simp [rd, List.getD, hlt]
              have HX := Aside0.mk hxr; have HE := Aside0.mk hxe; have HLT := Aside0.mk hlt
              rw [Int.toNat_natCast] at hx
              generalize rd l0 (j : Int) = x at *
              clear hxr hxe
              have hpj : IntKind.i64.wrap ((j : Int) + 1) = (j : Int) + 1 := IntWalk.i64_in _ (by omega)
              have hpz : ((0 : Int) ≤ (j : Int)) = True := eq_true (by omega)
              go_wp2_with fail
              refine (put.calls w wr g v1 (allBits wn (l0.take j)) x wn HB3.out HG.out HK3.out HR3.out HW.out HX.out ?hl).mono ?_
              case hl =>
                rw [allBits_length, List.length_take]
                have h1 := HOK.out.2
                have h2 := HW.out
                have h3 : min j l0.length * wn ≤ 1048576 * 64 := Nat.mul_le_mul (by omega) h2
                omega
              rintro e w3 ⟨v3, rfl, hb3, hk3, hr3⟩
              rw [HE.out, ← allBits_take wn l0 j HLT.out] at hk3 hr3
              have HB4 := Aside0.mk hb3; have HK4 := Aside0.mk hk3; have HR4 := Aside0.mk hr3
              clear hb3 hk3 hr3 HB3 HK3 HR3
              go_wp2_with fail
              go_roundg (l0.length - (j + 1))
              case measure => omega
              case rel => exact ⟨j + 1, v3, by omega, by omega, by push_cast; rfl, HB4, HK4, HR4⟩
            · have hje : j = l0.length := by omega
              subst hje
              rw [List.take_length] at HK3 HR3
              have hltz : decide ((l0.length : Int) < (l0.length : Int)) = false := decide_eq_false (by omega)
              have hc0 := (blk_cell HK3.out 0).trans rfl
              go_wp2_with fail
              rw [own_string Try.underlying36 Try.underlying5 Try.underlying9 (Kd.own_of_R HR3.out)]
              go_wp2_with fail
              go_ret2
              exact ⟨rfl, HB3.out⟩
  · rw [if_neg hok] at h
    exact absurd h (by simp)
end Go.Proofs.Ytimjafjicnlhfaa.A
