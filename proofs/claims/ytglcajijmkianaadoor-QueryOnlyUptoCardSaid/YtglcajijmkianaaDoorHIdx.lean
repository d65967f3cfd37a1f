/- slices.IndexFunc, slices.ContainsFunc and query.every over queries, with any function value that answers as a partial predicate; on every input. -/
import Derived.Test.YtglcajijmkianaaDoorAx0
import Derived.Deep.DeepFit
import Derived.Shelf.Abstract
namespace Go.Proofs.YtglcajijmkianaaDoor.A
open Go.RowKit Go.Proofs.YtglcajijmkianaaDoorW.PrintWords Go.Proofs.YtglcajijmkianaaDoorW.PrintLast Go.Proofs.YtglcajijmkianaaDoorW.PrintMore
set_option linter.unusedVariables false
set_option linter.unusedSimpArgs false

def idxO (p : S28 → Option Bool) : List S28 → Int → Option Int
  | [], _ => some (-1)
  | x :: xs, i => (p x).bind fun b => if b = true then some i else idxO p xs (i + 1)
def anyO (p : S28 → Option Bool) : List S28 → Option Bool
  | [] => some false
  | x :: xs => (p x).bind fun b => if b = true then some true else anyO p xs
def notO (p : S28 → Option Bool) (x : S28) : Option Bool := (p x).bind fun b => some (!b)

/-- A query's value, the kids' slice told apart. -/
def qv (x : S28) (A : Option Addr) (c : Nat) : Value := .agg #[.int .i64 x.f0, .int .i64 x.f1.f0, .int .i64 x.f1.f1, .bool x.f1.f2.f0, .int .i64 x.f1.f2.f1, .string x.f1.f2.f2, .slice A x.f2.length c]
/-- A function value answers as p does, at the queries of a list, in every world that stands over w. -/
def Asks (w : World) (g : Nat) (lb : Array Value) (p : S28 → Option Bool) (x : S28) : Prop :=
  ∀ (b : Bool) (A : Option Addr) (c : Nat) (W : World), p x = some b → Below w.heap.size w W → Kd.C k28 W A x.f2.length x.f2 → x.f2.length ≤ c →
    Calls Tryd.prog g (#[qv x A c] ++ lb) W fun e w' => e = .returned (.bool b) ∧ Below W.heap.size W w'

theorem idxO_range (p : S28 → Option Bool) : ∀ (xs : List S28) (i r : Int), idxO p xs i = some r → r = -1 ∨ i ≤ r := by
  intro xs
  induction xs with
  | nil => intro i r h; simp [idxO] at h; omega
  | cons x xs ih =>
    intro i r h
    simp only [idxO] at h
    obtain ⟨b, _, h⟩ := Option.bind_eq_some_iff.mp h
    cases b with
    | true => simp at h; omega
    | false => simp at h; have := ih _ _ h; omega
theorem idxO_anyO (p : S28 → Option Bool) : ∀ (xs : List S28) (i : Int), 0 ≤ i → (idxO p xs i).map (fun r => decide (0 ≤ r)) = anyO p xs := by
  intro xs
  induction xs with
  | nil => intro i _; rfl
  | cons x xs ih =>
    intro i hi
    simp only [idxO, anyO]
    cases h : p x with
    | none => rfl
    | some b =>
      cases b with
      | true => simp [hi]
      | false => simpa using ih (i + 1) (by omega)

theorem getElem_cases {xs : List S28} {k : Nat} (h : k < xs.length) : xs.drop k = xs[k] :: xs.drop (k + 1) := List.drop_eq_getElem_cons h

set_option maxHeartbeats 2000000 in
theorem IndexFunc.calls (g : Nat) (lb : Array Value) (p : S28 → Option Bool) (eg : ∀ args w, (callFunc g args).run Tryd.prog w = .ok (.enter g args) w) (A : Option Addr) (c : Nat) (xs : List S28) (w : World)
    (hr : Kd.C k28 w A xs.length xs) (ha : ∀ x ∈ xs, Asks w g lb p x) (r : Int) (h : idxO p xs 0 = some r) :
    Calls Tryd.prog 64 #[.slice A xs.length c, .func (.func g) #[] lb] w fun e w' => e = .returned (.int .i64 r) ∧ Below w.heap.size w w' := by
  have hu28 := Tryd.underlying28
  have hbig := hr.2.1
  have HR := Aside0.mk hr
  have HA := Aside0.mk ha
  have H := Aside0.mk h
  clear hr ha h
  go_enter Tryd.func64, Tryd.ntmps64
  go_wp2
  go_loopg [5, 8] xs.length (fun gg _ s8 wr => ∃ kk : Nat, kk ≤ xs.length ∧ xs.length - kk ≤ gg ∧ s8 = .int .i64 kk ∧ Aside0 (Below w.heap.size w wr) ∧ Aside0 (idxO p (xs.drop kk) kk = some r))
  case atStart => exact ⟨0, Nat.zero_le _, by omega, rfl, ⟨Below.refl _ w⟩, ⟨H.out⟩⟩
  case round =>
    obtain ⟨kk, hkk, hg, rfl, BW, I⟩ := hrel
    by_cases hlt : kk < xs.length
    · have hltz : (kk : Int) < (xs.length : Int) := by omega
      have H1 := I.out
      rw [getElem_cases hlt] at H1
      simp only [idxO] at H1
      obtain ⟨b, hb, H2⟩ := Option.bind_eq_some_iff.mp H1
      have H2 := Aside0.mk H2
      obtain ⟨ad, cs, e, _, hK, hc⟩ := Kd.C_get HR.out z28 kk (by omega) (by omega)
      cases e
      have hx : xs.getD (kk : Int).toNat z28 = xs[kk] := by simp [List.getD, List.getElem?_eq_getElem hlt]
      rw [hx] at hK
      generalize hxx : xs[kk] = x at hK hb H1
      have hmem : x ∈ xs := hxx ▸ List.getElem_mem hlt
      obtain ⟨A6, c6, rfl, l6, g6⟩ := k28_open hK
      have hcall := HA.out x hmem b A6 c6 wr hb BW.out (Kd.C_below g6 BW.out) l6
      have f0 := pw_cell_below BW.out (hc 0 _ rfl)
      have f1 := pw_cell_below BW.out (hc 1 _ rfl)
      have f2 := pw_cell_below BW.out (hc 2 _ rfl)
      have f3 := pw_cell_below BW.out (hc 3 _ rfl)
      have f4 := pw_cell_below BW.out (hc 4 _ rfl)
      have f5 := pw_cell_below BW.out (hc 5 _ rfl)
      have f6 := pw_cell_below BW.out (hc 6 _ rfl)
      have q1 := add_field ad (kk * 7) 1 (by omega)
      have q2 := add_field ad (kk * 7) 2 (by omega)
      have q3 := add_field ad (kk * 7) 3 (by omega)
      have q4 := add_field ad (kk * 7) 4 (by omega)
      have q5 := add_field ad (kk * 7) 5 (by omega)
      have q6 := add_field ad (kk * 7) 6 (by omega)
      have hsz : k28.sz = 7 := rfl
      simp only [Int.toNat_natCast, hsz, Nat.add_zero] at f0 f1 f2 f3 f4 f5 f6
      rw [q1] at f1; rw [q2] at f2; rw [q3] at f3; rw [q4] at f4; rw [q5] at f5; rw [q6] at f6
      clear hc q1 q2 q3 q4 q5 q6 H1 hb hx hK hsz I
      unfold qv at hcall
      cases b with
      | true =>
        go_wp2_with (go_at_fn g; refine hcall.mono ?_; rintro e w' ⟨rfl, hb'⟩)
        go_ret
        have H3 := H2.out
        simp only [if_true] at H3
        exact ⟨by rw [← Option.some.inj H3]; rfl, BW.out.trans (hb'.mono BW.out.size)⟩
      | false =>
        go_wp2_with (go_at_fn g; refine hcall.mono ?_; rintro e w' ⟨rfl, hb'⟩)
        go_roundg (xs.length - (kk + 1))
        case measure => omega
        case rel => exact ⟨kk + 1, by omega, by omega, by go_num, ⟨BW.out.trans (hb'.mono BW.out.size)⟩, ⟨by simpa using H2.out⟩⟩
    · have hltz : ¬ (kk : Int) < (xs.length : Int) := by omega
      have : kk = xs.length := by omega
      subst this
      have H1 := I.out
      rw [List.drop_length] at H1
      have H2 := Aside0.mk (Option.some.inj H1)
      clear H1 I
      go_wp2
      go_ret
      exact ⟨by rw [H2.out]; rfl, BW.out⟩

set_option maxHeartbeats 2000000 in
theorem ContainsFunc.calls (g : Nat) (lb : Array Value) (p : S28 → Option Bool) (eg : ∀ args w, (callFunc g args).run Tryd.prog w = .ok (.enter g args) w) (A : Option Addr) (c : Nat) (xs : List S28) (w : World)
    (hr : Kd.C k28 w A xs.length xs) (ha : ∀ x ∈ xs, Asks w g lb p x) (b : Bool) (h : anyO p xs = some b) :
    Calls Tryd.prog 36 #[.slice A xs.length c, .func (.func g) #[] lb] w fun e w' => e = .returned (.bool b) ∧ Below w.heap.size w w' := by
  rw [← idxO_anyO p xs 0 (by omega)] at h
  obtain ⟨r, hr1, hb⟩ := Option.map_eq_some_iff.mp h
  have HB := Aside0.mk hb
  have hcall := IndexFunc.calls g lb p eg A c xs w hr ha r hr1
  clear h hb hr1 ha hr
  go_enter Tryd.func36, Tryd.ntmps36
  go_wp2_with (go_at_call 64; refine hcall.mono ?_; rintro e w' ⟨rfl, hb'⟩)
  go_ret
  exact ⟨by rw [← HB.out]; rfl, hb'⟩

set_option maxRecDepth 100000 in
set_option maxHeartbeats 2000000 in
theorem Asks.turned {w w1 : World} {g : Nat} {lb : Array Value} {p : S28 → Option Bool} {x : S28} {bx : Nat} (eg : ∀ args w, (callFunc g args).run Tryd.prog w = .ok (.enter g args) w)
    (hw : Below w.heap.size w w1) (hbx : w1.cell? ⟨bx, 0, none⟩ = some (.func (.func g) #[] lb)) (h : Asks w g lb p x) : Asks w1 63 #[.pointer (some ⟨bx, 0, none⟩)] (notO p) x := by
  intro b A c W hb hW hC hc
  simp only [notO] at hb
  obtain ⟨b0, hb0, hb1⟩ := Option.bind_eq_some_iff.mp hb
  have HB1 := Aside0.mk (Option.some.inj hb1)
  have hcell := pw_cell_below hW hbx
  have HW := Aside0.mk (hw.trans (hW.mono hw.size))
  have HX := Aside0.mk h
  have HC := Aside0.mk hC
  have HB0 := Aside0.mk hb0
  clear hb hb1 h hC hbx hW hw hb0
  have hu28 := Tryd.underlying28
  unfold qv
  show Calls Tryd.prog 63 #[.agg #[.int .i64 x.f0, .int .i64 x.f1.f0, .int .i64 x.f1.f1, .bool x.f1.f2.f0, .int .i64 x.f1.f2.f1, .string x.f1.f2.f2, .slice A x.f2.length c], .pointer (some ⟨bx, 0, none⟩)] W _
  have hcell2 : ∀ o, (W.alloc o).cell? ⟨bx, 0, none⟩ = some (.func (.func g) #[] lb) := fun o => pw_cell_below (below_alloc (Below.refl _ _) o) hcell
  clear hcell
  go_enter Tryd.func63, Tryd.ntmps63
  have hcall := fun o => HX.out b0 A c (W.alloc o) HB0.out (HW.out.trans ((below_alloc (Below.refl _ _) o).mono HW.out.size)) (Kd.C_below HC.out (below_alloc (Below.refl _ _) o)) hc
  unfold qv at hcall
  go_wp2_with (go_at_fn g; refine (hcall _).mono ?_; rintro e w' ⟨rfl, hb'⟩)
  go_ret
  exact ⟨by rw [← HB1.out]; rfl, (below_alloc (Below.refl _ _) _).trans (hb'.mono (by simp))⟩

def everyO (p : S28 → Option Bool) (xs : List S28) : Option Bool := (anyO (notO p) xs).map (fun b => !b)

set_option maxRecDepth 100000 in
set_option maxHeartbeats 2000000 in
theorem every.calls (g : Nat) (lb : Array Value) (p : S28 → Option Bool) (eg : ∀ args w, (callFunc g args).run Tryd.prog w = .ok (.enter g args) w) (A : Option Addr) (c : Nat) (xs : List S28) (w : World)
    (hr : Kd.C k28 w A xs.length xs) (ha : ∀ x ∈ xs, Asks w g lb p x) (b : Bool) (h : everyO p xs = some b) :
    Calls Tryd.prog 35 #[.slice A xs.length c, .func (.func g) #[] lb] w fun e w' => e = .returned (.bool b) ∧ Below w.heap.size w w' := by
  obtain ⟨r, hr1, hb⟩ := Option.map_eq_some_iff.mp h
  have HB := Aside0.mk hb
  have hbox : ∀ t, (w.alloc (.cells #[.func (.func g) #[] lb] t)).cell? ⟨w.heap.size, 0, none⟩ = some (.func (.func g) #[] lb) := fun t => by simp [World.cell?_alloc_new]
  have eg63 : ∀ args W, (callFunc 63 args).run Tryd.prog W = .ok (.enter 63 args) W := Go.Proofs.enters_of Tryd.func63 (by kernel_rfl) rfl
  have hcall := fun t => ContainsFunc.calls 63 #[.pointer (some ⟨w.heap.size, 0, none⟩)] (notO p) eg63 A c xs (w.alloc (.cells #[.func (.func g) #[] lb] t)) (Kd.C_below hr (below_alloc (Below.refl _ _) _))
    (fun x hx => (ha x hx).turned eg (below_alloc (Below.refl _ _) _) (hbox t)) r hr1
  clear h hb hr1 ha hr hbox eg63 eg
  go_enter Tryd.func35, Tryd.ntmps35
  go_wp2_with (go_at_call 36; refine (hcall _).mono ?_; rintro e w' ⟨rfl, hb'⟩)
  go_ret
  exact ⟨by rw [← HB.out]; rfl, (below_alloc (Below.refl _ _) _).trans (hb'.mono (by simp))⟩

theorem AB_then {w W w' : World} (h : Aside0 (Below w.heap.size w W)) (hb : Below W.heap.size W w') : Aside0 (Below w.heap.size w w') := ⟨h.out.trans (hb.mono h.out.size)⟩
theorem AB_drew {w W : World} (h : Aside0 (Below w.heap.size w W)) : Aside0 (Below w.heap.size w W.drew) := ⟨below_drew h.out⟩
theorem anyO_mono {p q : S28 → Option Bool} (h : ∀ x, LeO (p x) (q x)) : ∀ xs, LeO (anyO p xs) (anyO q xs)
  | [] => LeO.refl _
  | x :: xs => LeO.bind (h x) (fun _ => LeO.ite (LeO.refl _) (anyO_mono h xs))
theorem everyO_mono {p q : S28 → Option Bool} (h : ∀ x, LeO (p x) (q x)) (xs : List S28) : LeO (everyO p xs) (everyO q xs) :=
  LeO.map _ (anyO_mono (fun x => LeO.bind (h x) (fun _ => LeO.refl _)) xs)

end Go.Proofs.YtglcajijmkianaaDoor.A
