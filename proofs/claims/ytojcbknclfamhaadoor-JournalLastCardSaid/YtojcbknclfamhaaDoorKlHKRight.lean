/- kinds.Right: may a schema be? -/
import Derived.Test.YtojcbknclfamhaaDoorKlAx0
import Derived.Deep.DeepFit
import Derived.Shelf.Abstract
namespace Go.Proofs.YtojcbknclfamhaaDoor.A
open Go.RowKit Go.Proofs.YtojcbknclfamhaaDoorW.PrintWords Go.Proofs.YtojcbknclfamhaaDoorW.PrintLast Go.Proofs.YtojcbknclfamhaaDoorW.PrintMore
set_option linter.unusedVariables false
set_option linter.unusedSimpArgs false
def oddC (c : S50) : Bool := decide (c.f0 ≠ 1 ∧ c.f0 ≠ 2)
def idxC (p : S50 → Bool) : List S50 → Int → Int
  | [], _ => -1
  | x :: xs, i => if p x = true then i else idxC p xs (i + 1)
theorem idxC_any (p : S50 → Bool) : ∀ (l : List S50) (i : Int), 0 ≤ i → decide (0 ≤ idxC p l i) = l.any p
  | [], i, h => rfl
  | x :: xs, i, h => by
    unfold idxC
    cases hp : p x with
    | true => simp [hp, h]
    | false => simp only [hp, Bool.false_eq_true, if_false, List.any_cons, Bool.false_or]; exact idxC_any p xs (i + 1) (by omega)
theorem oddC.calls (c : S50) (w : World) : Calls Tryd.prog 39 #[.agg #[.int .i64 c.f0, .bool c.f1]] w fun e w' => e = .returned (.bool (oddC c)) ∧ Below w.heap.size w w' := by
  have hb : oddC c = (!(c.f0 == 1) && !(c.f0 == 2)) := by
    unfold oddC
    by_cases h1 : c.f0 = 1 <;> by_cases h2 : c.f0 = 2 <;> simp [h1, h2]
  rw [hb]
  have hu := Tryd.underlying50
  cases h1 : (c.f0 == 1) with
  | true =>
    have h2 : (c.f0 != 1) = false := by rw [bne, h1]; rfl
    go_enter Tryd.func39, Tryd.ntmps39
    go_wp2
    go_ret
    exact ⟨rfl, below_alloc (Below.refl _ _) _⟩
  | false =>
    have h2 : (c.f0 != 1) = true := by rw [bne, h1]; rfl
    cases h3 : (c.f0 == 2) with
    | true =>
      have h4 : (c.f0 != 2) = false := by rw [bne, h3]; rfl
      go_enter Tryd.func39, Tryd.ntmps39
      go_wp2
      go_ret
      exact ⟨rfl, below_alloc (Below.refl _ _) _⟩
    | false =>
      have h4 : (c.f0 != 2) = true := by rw [bne, h3]; rfl
      go_enter Tryd.func39, Tryd.ntmps39
      go_wp2
      go_ret
      exact ⟨rfl, below_alloc (Below.refl _ _) _⟩
set_option maxHeartbeats 2000000 in
theorem IndexC.calls (g : Nat) (eg : ∀ args w, (callFunc g args).run Tryd.prog w = .ok (.enter g args) w) (hg0 : ∀ (s : S50) W, Calls Tryd.prog g #[.agg #[.int .i64 s.f0, .bool s.f1]] W fun e w' => e = .returned (.bool (oddC s)) ∧ Below W.heap.size W w') (A : Option Addr) (c : Nat) (l : List S50) (w : World) (hr : Kd.C k50 w A l.length l) :
    Calls Tryd.prog 66 #[.slice A l.length c, .func (.func g) #[] #[]] w fun e w' => e = .returned (.int .i64 (idxC oddC l 0)) ∧ Below w.heap.size w w' := by
  have hu := Tryd.underlying27
  have hu2 := Tryd.underlying50
  have hbig := hr.2.1
  have HR := Aside0.mk hr
  clear hr
  go_enter Tryd.func66, Tryd.ntmps66
  go_wp2
  go_loopg [8] l.length (fun gg s8 wr => ∃ kk : Nat, kk ≤ l.length ∧ l.length - kk ≤ gg ∧ s8 = .int .i64 kk ∧ Aside0 (Below w.heap.size w wr) ∧ Aside0 (idxC oddC (l.drop kk) kk = idxC oddC l 0))
  case atStart => exact ⟨0, Nat.zero_le _, by omega, rfl, ⟨Below.refl _ w⟩, ⟨rfl⟩⟩
  case round =>
    obtain ⟨kk, hkk, hg, rfl, BW, I⟩ := hrel
    by_cases hlt : kk < l.length
    · have hltz : decide ((kk : Int) < (l.length : Int)) = true := decide_eq_true (by omega)
      have hltn : decide (kk < l.length) = true := decide_eq_true hlt
      have H1 := I.out
      rw [List.drop_eq_getElem_cons hlt] at H1
      simp only [idxC] at H1
      obtain ⟨ad, e, hx0, hx1⟩ := at_T50 HR.out (kk : Int) (by omega) (by omega)
      cases e
      replace hx0 := (BW.out.cell (World.block_lt_of_cell? w _ hx0)).trans hx0
      replace hx1 := (BW.out.cell (World.block_lt_of_cell? w _ hx1)).trans hx1
      have hxe : rd_T50 l (kk : Int) = l[kk] := by simp [rd_T50, hlt]
      rw [← hxe] at H1
      rw [Int.toNat_natCast] at hx0 hx1
      generalize rd_T50 l (kk : Int) = x at *
      have HH := Aside0.mk H1; have HLT := Aside0.mk (And.intro hkk (And.intro hg hlt))
      have hjT : ((kk : Int) < (l.length : Int)) = True := eq_true (by omega)
      have hj0 : ((0 : Int) ≤ (kk : Int)) = True := eq_true (by omega)
      have hpj : IntKind.i64.wrap ((kk : Int) + 1) = (kk : Int) + 1 := IntWalk.i64_in _ (by omega)
      have hcall := hg0 x wr
      clear H1 hxe I hkk hg hlt
      cases hb : oddC x with
      | true =>
        rw [hb] at hcall HH
        go_wp2_with (go_at_fn g; refine hcall.mono ?_; rintro e w' ⟨rfl, hb'⟩)
        go_ret
        have H3 := HH.out
        simp only [if_true] at H3
        exact ⟨by rw [← H3]; rfl, BW.out.trans (hb'.mono BW.out.size)⟩
      | false =>
        rw [hb] at hcall HH
        go_wp2_with (go_at_fn g; refine hcall.mono ?_; rintro e w' ⟨rfl, hb'⟩; (have BW2 := Aside0.mk (BW.out.trans (hb'.mono BW.out.size))); clear hb')
        go_roundg (l.length - (kk + 1))
        case measure => have := HLT.out; omega
        case rel => exact ⟨kk + 1, HLT.out.2.2, by have := HLT.out; omega, by push_cast; rfl, BW2, ⟨by simpa using HH.out⟩⟩
    · have hltz : decide ((kk : Int) < (l.length : Int)) = false := decide_eq_false (by omega)
      have hltn : decide (kk < l.length) = false := decide_eq_false hlt
      have : kk = l.length := by omega
      subst this
      have H1 := I.out
      rw [List.drop_length] at H1
      have H2 := Aside0.mk H1
      clear H1 I
      go_wp2
      go_ret
      exact ⟨by rw [← H2.out]; rfl, BW.out⟩
set_option maxHeartbeats 2000000 in
theorem ContainsC.calls (A : Option Addr) (c : Nat) (l : List S50) (w : World) (hr : Kd.C k50 w A l.length l) :
    Calls Tryd.prog 40 #[.slice A l.length c, .func (.func 39) #[] #[]] w fun e w' => e = .returned (.bool (l.any oddC)) ∧ Below w.heap.size w w' := by
  have hcall := IndexC.calls 39 (enters_of Tryd.func39 (by kernel_rfl) rfl) oddC.calls A c l w hr
  have HB := Aside0.mk (idxC_any oddC l 0 (Int.le_refl _))
  clear hr
  generalize idxC oddC l 0 = r at *
  go_enter Tryd.func40, Tryd.ntmps40
  go_wp2_with (go_at_call 66; refine hcall.mono ?_; rintro e w' ⟨rfl, hb'⟩)
  go_ret
  exact ⟨by rw [← HB.out]; rfl, hb'⟩
def rightC (l : List S50) : Bool := decide (0 < l.length) && decide (l.length ≤ 6) && !(rd_T50 l 0).f1 && !(l.any oddC)
def kinds_Right.f (l : List S50) : Option Bool := some (rightC l)
set_option maxHeartbeats 4000000 in
set_option maxRecDepth 100000 in
theorem kinds_Right.calls (A : Option Addr) (c : Nat) (l : List S50) (r : Bool) (w : World) (hr : Kd.C k50 w A l.length l) (hc0 : l.length ≤ c) (h : kinds_Right.f l = some r) :
    Calls Tryd.prog 22 #[.slice A l.length c] w fun e w' => e = .returned (.bool r) ∧ Below w.heap.size w w' := by
  have h := Option.some.inj h
  subst h
  have hcall := fun W (hb : Below w.heap.size w W) => ContainsC.calls A c l W (Kd.C_below hr hb)
  have HC := Aside0.mk hcall
  have HR := Aside0.mk hr
  have hbig := hr.2.1
  have hu2 := Tryd.underlying50
  have hu := Tryd.underlying27
  clear hr hcall
  by_cases h0 : 0 < l.length
  rotate_left
  · have hr0 : rightC l = false := by unfold rightC; rw [decide_eq_false h0]; rfl
    have g1 : decide ((0 : Int) < (l.length : Int)) = false := decide_eq_false (by omega)
    have g2 : decide (0 < l.length) = false := decide_eq_false h0
    rw [hr0]
    clear hr0
    go_enter Tryd.func22, Tryd.ntmps22
    go_wp2_with fail
    go_ret
    exact ⟨rfl, Below.refl _ _⟩
  have g1 : decide ((0 : Int) < (l.length : Int)) = true := decide_eq_true (by omega)
  have g2 : decide (0 < l.length) = true := decide_eq_true h0
  by_cases h6 : l.length ≤ 6
  rotate_left
  · have hr0 : rightC l = false := by unfold rightC; rw [decide_eq_false h6]; simp
    have g3 : decide ((l.length : Int) ≤ 6) = false := decide_eq_false (by omega)
    have g4 : decide (l.length ≤ 6) = false := decide_eq_false h6
    have g5 : decide ((6 : Int) < (l.length : Int)) = true := decide_eq_true (by omega)
    have g6 : decide (6 < l.length) = true := decide_eq_true (by omega)
    rw [hr0]
    clear hr0
    go_enter Tryd.func22, Tryd.ntmps22
    go_wp2_with fail
    go_ret
    exact ⟨rfl, Below.refl _ _⟩
  have g3 : decide ((l.length : Int) ≤ 6) = true := decide_eq_true (by omega)
  have g4 : decide (l.length ≤ 6) = true := decide_eq_true h6
  have g5 : decide ((6 : Int) < (l.length : Int)) = false := decide_eq_false (by omega)
  have g6 : decide (6 < l.length) = false := decide_eq_false (by omega)
  obtain ⟨ad, e, hx0, hx1⟩ := at_T50 HR.out 0 (by omega) (by omega)
  cases e
  have hjT : ((0 : Int) < (l.length : Int)) = True := eq_true (by omega)
  have hj : 0 < l.length := h0
  rw [show (0 : Int).toNat = 0 from rfl] at hx0 hx1
  replace hx1 : w.cell? ⟨ad.block, ad.off + 1, none⟩ = some (.bool (rd_T50 l 0).f1) := by simpa [Addr.add] using hx1
  clear hx0
  have hr0 : rightC l = (!(rd_T50 l 0).f1 && !(l.any oddC)) := by unfold rightC; rw [g2, g4]; simp
  rw [hr0]
  generalize rd_T50 l 0 = x at *
  obtain ⟨x0, x1⟩ := x
  simp only at hx1 ⊢
  clear hr0
  cases x1 with
  | true =>
    go_enter Tryd.func22, Tryd.ntmps22
    go_wp2_with fail
    go_ret
    exact ⟨rfl, Below.refl _ _⟩
  | false =>
    go_enter Tryd.func22, Tryd.ntmps22
    go_wp2_with fail
    refine (HC.out _ (Below.refl _ _)).mono ?_
    rintro e w' ⟨rfl, hb'⟩
    go_wp2_with fail
    go_ret
    exact ⟨rfl, hb'⟩
end Go.Proofs.YtojcbknclfamhaaDoor.A
