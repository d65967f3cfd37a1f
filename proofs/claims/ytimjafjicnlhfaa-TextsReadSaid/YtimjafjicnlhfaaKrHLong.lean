/- texts.long: whether texts are too many, or one is too long. -/
import Derived.Test.YtimjafjicnlhfaaKrAx0
import Derived.Deep.DeepFit
import Derived.Shelf.Abstract
namespace Go.Proofs.Ytimjafjicnlhfaa.A
open Go.RowKit Go.Proofs.YtimjafjicnlhfaaW.PrintWords Go.Proofs.YtimjafjicnlhfaaW.PrintLast Go.Proofs.YtimjafjicnlhfaaW.PrintMore
set_option linter.unusedVariables false
set_option linter.unusedSimpArgs false
def idxL (p : ByteArray → Bool) : List ByteArray → Int → Int
  | [], _ => -1
  | x :: xs, i => if p x = true then i else idxL p xs (i + 1)
theorem idxL_any (p : ByteArray → Bool) : ∀ (l : List ByteArray) (i : Int), 0 ≤ i → decide (0 ≤ idxL p l i) = l.any p
  | [], i, h => rfl
  | x :: xs, i, h => by
    unfold idxL
    cases hp : p x with
    | true => simp [hp, h]
    | false => simp only [hp, Bool.false_eq_true, if_false, List.any_cons, Bool.false_or]; exact idxL_any p xs (i + 1) (by omega)
def longT (s : ByteArray) : Bool := decide (64 < s.size)
theorem longT.calls (s : ByteArray) (w : World) : Calls Try.prog 45 #[.string s] w fun e w' => e = .returned (.bool (longT s)) ∧ w' = w := by
  go_enter Try.func45, Try.ntmps45
  go_wp2
  go_ret
  exact ⟨by unfold longT; congr 2; simp; omega, rfl⟩
set_option maxHeartbeats 2000000 in
theorem IndexL.calls (g : Nat) (eg : ∀ args w, (callFunc g args).run Try.prog w = .ok (.enter g args) w) (hg0 : ∀ s W, Calls Try.prog g #[.string s] W fun e w' => e = .returned (.bool (longT s)) ∧ w' = W) (A : Option Addr) (c : Nat) (l : List ByteArray) (w : World) (hr : Kd.C Kd.string w A l.length l) :
    Calls Try.prog 68 #[.slice A l.length c, .func (.func g) #[] #[]] w fun e w' => e = .returned (.int .i64 (idxL longT l 0)) ∧ Below w.heap.size w w' := by
  have hu := Try.underlying22
  have hbig := hr.2.1
  have HR := Aside0.mk hr
  clear hr
  go_enter Try.func68, Try.ntmps68
  go_wp2
  go_loopg [8] l.length (fun gg s8 wr => ∃ kk : Nat, kk ≤ l.length ∧ l.length - kk ≤ gg ∧ s8 = .int .i64 kk ∧ Aside0 (Below w.heap.size w wr) ∧ Aside0 (idxL longT (l.drop kk) kk = idxL longT l 0))
  case atStart => exact ⟨0, Nat.zero_le _, by omega, rfl, ⟨Below.refl _ w⟩, ⟨rfl⟩⟩
  case round =>
    obtain ⟨kk, hkk, hg, rfl, BW, I⟩ := hrel
    by_cases hlt : kk < l.length
    · have hltz : decide ((kk : Int) < (l.length : Int)) = true := decide_eq_true (by omega)
      have hltn : decide (kk < l.length) = true := decide_eq_true hlt
      have H1 := I.out
      rw [List.drop_eq_getElem_cons hlt] at H1
      simp only [idxL] at H1
      obtain ⟨ad, e, hx⟩ := Kd.at_string HR.out (kk : Int) (by omega) (by omega)
      cases e
      replace hx := (BW.out.cell (World.block_lt_of_cell? w _ hx)).trans hx
      have hxe : rdOf ByteArray.empty l (kk : Int) = l[kk] := by simp [rdOf, hlt]
      rw [← hxe] at H1
      rw [Int.toNat_natCast] at hx
      generalize rdOf ByteArray.empty l (kk : Int) = x at *
      have HH := Aside0.mk H1; have HLT := Aside0.mk (And.intro hkk (And.intro hg hlt))
      have hjT : ((kk : Int) < (l.length : Int)) = True := eq_true (by omega)
      have hj0 : ((0 : Int) ≤ (kk : Int)) = True := eq_true (by omega)
      have hpj : IntKind.i64.wrap ((kk : Int) + 1) = (kk : Int) + 1 := IntWalk.i64_in _ (by omega)
      have hcall := hg0 x wr
      clear H1 hxe I hkk hg hlt
      cases hb : longT x with
      | true =>
        rw [hb] at hcall HH
        go_wp2_with (go_at_fn g; refine hcall.mono ?_; rintro e w' ⟨rfl, rfl⟩)
        go_ret
        have H3 := HH.out
        simp only [if_true] at H3
        exact ⟨by rw [← H3]; rfl, BW.out⟩
      | false =>
        rw [hb] at hcall HH
        go_wp2_with (go_at_fn g; refine hcall.mono ?_; rintro e w' ⟨rfl, rfl⟩)
        go_roundg (l.length - (kk + 1))
        case measure => have := HLT.out; omega
        case rel => exact ⟨kk + 1, HLT.out.2.2, by have := HLT.out; omega, by push_cast; rfl, BW, ⟨by simpa using HH.out⟩⟩
    · have hltz : decide ((kk : Int) < (l.length : Int)) = false := decide_eq_false (by omega)
      have hltn : decide (kk < l.length) = false := decide_eq_false hlt
      have : kk = l.length := by omega
      subst this
      have H1 := I.out
      rw [List.drop_length] at H1
      have H2 := Aside0.mk H1
      clear H1 I
      go_wp2
      go_ret
      exact ⟨by rw [← H2.out]; rfl, BW.out⟩
set_option maxHeartbeats 2000000 in
theorem ContainsL.calls (A : Option Addr) (c : Nat) (l : List ByteArray) (w : World) (hr : Kd.C Kd.string w A l.length l) :
    Calls Try.prog 44 #[.slice A l.length c, .func (.func 45) #[] #[]] w fun e w' => e = .returned (.bool (l.any longT)) ∧ Below w.heap.size w w' := by
  have hcall := IndexL.calls 45 (enters_of Try.func45 (by kernel_rfl) rfl) longT.calls A c l w hr
  have HB := Aside0.mk (idxL_any longT l 0 (Int.le_refl _))
  clear hr
  generalize idxL longT l 0 = r at *
  go_enter Try.func44, Try.ntmps44
  go_wp2_with (go_at_call 68; refine hcall.mono ?_; rintro e w' ⟨rfl, hb'⟩)
  go_ret
  exact ⟨by rw [← HB.out]; rfl, hb'⟩
def longP (l : List ByteArray) : Bool := decide (65536 < l.length) || l.any longT
set_option maxHeartbeats 2000000 in
theorem long.calls (A : Option Addr) (c : Nat) (l : List ByteArray) (w : World) (hr : Kd.C Kd.string w A l.length l) :
    Calls Try.prog 17 #[.slice A l.length c] w fun e w' => e = .returned (.bool (longP l)) ∧ Below w.heap.size w w' := by
  have hcall := fun W (hb : Below w.heap.size w W) => ContainsL.calls A c l W (Kd.C_below hr hb)
  have HC := Aside0.mk hcall
  have hbig := hr.2.1
  clear hr hcall
  unfold longP
  by_cases h : 65536 < l.length
  · have g1 : decide ((65536 : Int) < (l.length : Int)) = true := decide_eq_true (by omega)
    have g2 : decide (65536 < l.length) = true := decide_eq_true h
    go_enter Try.func17, Try.ntmps17
    go_wp2_with fail
    go_ret
    exact ⟨by rw [g2]; rfl, Below.refl _ _⟩
  · have g1 : decide ((65536 : Int) < (l.length : Int)) = false := decide_eq_false (by omega)
    have g2 : decide (65536 < l.length) = false := decide_eq_false h
    have G2 := Aside0.mk g2
    go_enter Try.func17, Try.ntmps17
    go_wp2_with (go_at_call 44; refine (HC.out _ (by first | exact Below.refl _ _ | exact below_drew (Below.refl _ _) | (apply pw_below_drewN; exact Below.refl _ _))).mono ?_; rintro e w' ⟨rfl, hb'⟩)
    go_ret
    exact ⟨by rw [G2.out]; rfl, hb'⟩
end Go.Proofs.Ytimjafjicnlhfaa.A
