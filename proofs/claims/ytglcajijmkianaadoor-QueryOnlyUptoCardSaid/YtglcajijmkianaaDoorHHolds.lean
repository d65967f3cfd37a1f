/- query.Holds: which rows hold, of any query, told by a function on the query as a tree; on every input. -/
import Derived.Test.YtglcajijmkianaaDoorAx0
import Derived.Test.YtglcajijmkianaaDoorAx3
import Derived.Test.YtglcajijmkianaaDoorHIdx
namespace Go.Proofs.YtglcajijmkianaaDoor.A
open Go.RowKit Go.Proofs.YtglcajijmkianaaDoorW.PrintWords Go.Proofs.YtglcajijmkianaaDoorW.PrintLast Go.Proofs.YtglcajijmkianaaDoorW.PrintMore
set_option linter.unusedVariables false
set_option linter.unusedSimpArgs false

def query_Holds.f : Nat → Int → Int → Int → Bool → Int → ByteArray → List S28 → List S23 → Option Bool
  | 0, _, _, _, _, _, _, _, _ => none
  | k + 1, a0, a1, a2, a3, a4, a5, l6, l1 =>
    if a0 = 1 then (if 0 ≤ a2 then (if a2 < (l1.length : Int) then zone_Holds.f k a1 a2 a3 a4 a5 (rd_T23 l1 a2).f0 (rd_T23 l1 a2).f1 (rd_T23 l1 a2).f2 else some false) else some false)
    else if a0 = 2 then everyO (fun q => query_Holds.f k q.f0 q.f1.f0 q.f1.f1 q.f1.f2.f0 q.f1.f2.f1 q.f1.f2.f2 q.f2 l1) l6
    else if a0 = 3 then anyO (fun q => query_Holds.f k q.f0 q.f1.f0 q.f1.f1 q.f1.f2.f0 q.f1.f2.f1 q.f1.f2.f2 q.f2 l1) l6
    else if a0 = 4 then (match l6 with | [] => some true | q :: _ => notO (fun q => query_Holds.f k q.f0 q.f1.f0 q.f1.f1 q.f1.f2.f0 q.f1.f2.f1 q.f1.f2.f2 q.f2 l1) q)
    else some false
/-- at a query as a tree -/
def holdsAt (k : Nat) (l1 : List S23) (q : S28) : Option Bool := query_Holds.f k q.f0 q.f1.f0 q.f1.f1 q.f1.f2.f0 q.f1.f2.f1 q.f1.f2.f2 q.f2 l1

theorem Holds_succ (k : Nat) (a0 a1 a2 : Int) (a3 : Bool) (a4 : Int) (a5 : ByteArray) (l6 : List S28) (l1 : List S23) : query_Holds.f (k + 1) a0 a1 a2 a3 a4 a5 l6 l1 =
    (if a0 = 1 then (if 0 ≤ a2 then (if a2 < (l1.length : Int) then zone_Holds.f k a1 a2 a3 a4 a5 (rd_T23 l1 a2).f0 (rd_T23 l1 a2).f1 (rd_T23 l1 a2).f2 else some false) else some false)
    else if a0 = 2 then everyO (holdsAt k l1) l6
    else if a0 = 3 then anyO (holdsAt k l1) l6
    else if a0 = 4 then (match l6 with | [] => some true | q :: _ => notO (holdsAt k l1) q)
    else some false) := by rfl

theorem query_Holds.mono : ∀ a0 a1 a2 a3 a4 a5 a6 a7 k, LeO (query_Holds.f k a0 a1 a2 a3 a4 a5 a6 a7) (query_Holds.f (k + 1) a0 a1 a2 a3 a4 a5 a6 a7) := by
  intro a0 a1 a2 a3 a4 a5 a6 a7 k
  induction k generalizing a0 a1 a2 a3 a4 a5 a6 a7 with
  | zero => exact LeO.none _
  | succ k ih =>
    rw [Holds_succ, Holds_succ]
    refine LeO.ite (LeO.ite (LeO.ite (zone_Holds.mono _ _ _ _ _ _ _ _ _) (LeO.refl _)) (LeO.refl _)) (LeO.ite (everyO_mono (fun q => ih _ _ _ _ _ _ _ _) _) (LeO.ite (anyO_mono (fun q => ih _ _ _ _ _ _ _ _) _) (LeO.ite ?_ (LeO.refl _))))
    cases a6 with
    | nil => exact LeO.refl _
    | cons q _ => exact LeO.bind (ih _ _ _ _ _ _ _ _) (fun _ => LeO.refl _)

/-- What the call says at k, for the closure's sake. -/
def HoldsSaid (k : Nat) (l1 : List S23) : Prop := ∀ (x : S28) (A : Option Addr) (c : Nat) (A1 : Option Addr) (c1 : Nat) (r : Bool) (W : World), Kd.C k28 W A x.f2.length x.f2 → x.f2.length ≤ c → Kd.C k23 W A1 l1.length l1 → l1.length ≤ c1 → holdsAt k l1 x = some r →
    Calls Tryd.prog 17 #[.agg #[.int .i64 x.f0, .int .i64 x.f1.f0, .int .i64 x.f1.f1, .bool x.f1.f2.f0, .int .i64 x.f1.f2.f1, .string x.f1.f2.f2, .slice A x.f2.length c], .slice A1 l1.length c1] W fun e w' => e = .returned (.bool r) ∧ Below W.heap.size W w'

set_option maxRecDepth 100000 in
set_option maxHeartbeats 2000000 in
theorem Holds1.asks {k : Nat} {l1 : List S23} (hk : HoldsSaid k l1) {w w1 : World} {A1 : Option Addr} {c1 bx : Nat} (hw : Below w.heap.size w w1) (hr1 : Kd.C k23 w A1 l1.length l1) (hc1 : l1.length ≤ c1) (hbx : w1.cell? ⟨bx, 0, none⟩ = some (.slice A1 l1.length c1)) (x : S28) :
    Asks w1 33 #[.pointer (some ⟨bx, 0, none⟩)] (holdsAt k l1) x := by
  intro b A c W hb hW hC hc
  have hcell := pw_cell_below hW hbx
  have hcell2 : ∀ o, (W.alloc o).cell? ⟨bx, 0, none⟩ = some (.slice A1 l1.length c1) := fun o => pw_cell_below (below_alloc (Below.refl _ _) o) hcell
  have hcall := fun o => hk x A c A1 c1 b (W.alloc o) (Kd.C_below hC (below_alloc (Below.refl _ _) o)) hc (Kd.C_below hr1 (hw.trans (((hW.trans ((below_alloc (Below.refl _ _) o).mono hW.size))).mono hw.size))) hc1 hb
  clear hcell hbx hC hW hw hb hk hr1
  have hu28 := Tryd.underlying28
  unfold qv
  show Calls Tryd.prog 33 #[.agg #[.int .i64 x.f0, .int .i64 x.f1.f0, .int .i64 x.f1.f1, .bool x.f1.f2.f0, .int .i64 x.f1.f2.f1, .string x.f1.f2.f2, .slice A x.f2.length c], .pointer (some ⟨bx, 0, none⟩)] W _
  go_enter Tryd.func33, Tryd.ntmps33
  go_wp2_with (go_at_call 17; refine (hcall _).mono ?_; rintro e w' ⟨rfl, hb'⟩)
  go_ret
  exact ⟨rfl, (below_alloc (Below.refl _ _) _).trans (hb'.mono (by simp))⟩

set_option maxRecDepth 100000 in
set_option maxHeartbeats 4000000 in
theorem query_Holds.calls (k : Nat) : ∀ (a0_0 : Int) (a0_1 : Int) (a0_2 : Int) (a0_3 : Bool) (a0_4 : Int) (a0_5 : ByteArray) (A0_6 : Option Addr) (c0_6 : Nat) (l0_6 : List (S28)) (A1 : Option Addr) (c1 : Nat) (l1 : List (S23)) (r : Bool) (w : World) (hr0_6 : Kd.C k28 w A0_6 l0_6.length l0_6) (hc0_6 : l0_6.length ≤ c0_6) (hr1 : Kd.C k23 w A1 l1.length l1) (hc1 : l1.length ≤ c1) (h : query_Holds.f k a0_0 a0_1 a0_2 a0_3 a0_4 a0_5 l0_6 l1 = some r),
    Calls Tryd.prog 17 #[.agg #[.int .i64 a0_0, .int .i64 a0_1, .int .i64 a0_2, .bool a0_3, .int .i64 a0_4, .string a0_5, .slice A0_6 l0_6.length c0_6], .slice A1 l1.length c1] w fun e w' => e = .returned (.bool r) ∧ Below w.heap.size w w' := by
  induction k using Nat.strongRecOn with
  | _ k ih =>
  intro a0_0 a0_1 a0_2 a0_3 a0_4 a0_5 A0_6 c0_6 l0_6 A1 c1 l1 r w hr0_6 hc0_6 hr1 hc1 h
  cases k with
  | zero => exact absurd h (by simp [query_Holds.f])
  | succ k =>
  rw [Holds_succ] at h
  have hu28 := Tryd.underlying28
  have hu25 := Tryd.underlying25
  have hu23 := Tryd.underlying23
  have HR0_6 := Aside0.mk hr0_6
  have HR1 := Aside0.mk hr1
  have H := Aside0.mk h
  have IH := Aside0.mk ih
  clear hr0_6 hr1 h ih
  by_cases c3 : a0_0 = 1
  · have H1 := H.out
    rw [if_pos c3] at H1
    subst c3
    by_cases c4 : 0 ≤ a0_2
    · rw [if_pos c4] at H1
      by_cases c5 : a0_2 < (l1.length : Int)
      · rw [if_pos c5] at H1
        have H2 := Aside0.mk H1
        have hz := fun W => zone_Holds.calls k a0_1 a0_2 a0_3 a0_4 a0_5 (rd_T23 l1 a0_2).f0 (rd_T23 l1 a0_2).f1 (rd_T23 l1 a0_2).f2 r W H1
        clear H H1
        obtain ⟨ad, e, h0, h1, h2⟩ := at_T23 HR1.out a0_2 c4 c5
        cases e
        have hd : decide (a0_2 < (l1.length : Int)) = true := decide_eq_true c5
        have hd2 : decide (0 ≤ a0_2) = true := decide_eq_true c4
        go_enter Tryd.func17, Tryd.ntmps17
        go_wp2_with fail
        generalize hW : (w.alloc _).alloc _ = W
        have BW : Aside0 (Below w.heap.size w W) := ⟨by rw [← hW]; exact below_alloc (below_alloc (Below.refl _ _) _) _⟩
        have g0 := pw_cell_below BW.out h0
        have g1 := pw_cell_below BW.out h1
        have g2 := pw_cell_below BW.out h2
        have f1 : W.cell? ⟨w.heap.size, 1, none⟩ = some (.int .i64 a0_1) := by rw [← hW]; simp [go_sem]
        have f2 : W.cell? ⟨w.heap.size, 2, none⟩ = some (.int .i64 a0_2) := by rw [← hW]; simp [go_sem]
        have f3 : W.cell? ⟨w.heap.size, 3, none⟩ = some (.bool a0_3) := by rw [← hW]; simp [go_sem]
        have f4 : W.cell? ⟨w.heap.size, 4, none⟩ = some (.int .i64 a0_4) := by rw [← hW]; simp [go_sem]
        have f5 : W.cell? ⟨w.heap.size, 5, none⟩ = some (.string a0_5) := by rw [← hW]; simp [go_sem]
        have fr : W.cell? ⟨w.heap.size + 1, 0, none⟩ = some (.slice (some ad) l1.length c1) := by rw [← hW]; simp [go_sem]
        clear hW h0 h1 h2
        go_region_held3 (fun w' => w'.cell? ⟨w.heap.size, 1, none⟩ = some (.int .i64 a0_1) ∧ w'.cell? ⟨w.heap.size, 2, none⟩ = some (.int .i64 a0_2) ∧ w'.cell? ⟨w.heap.size, 3, none⟩ = some (.bool a0_3) ∧ w'.cell? ⟨w.heap.size, 4, none⟩ = some (.int .i64 a0_4) ∧ w'.cell? ⟨w.heap.size, 5, none⟩ = some (.string a0_5) ∧ w'.cell? ⟨w.heap.size + 1, 0, none⟩ = some (.slice (some ad) l1.length c1) ∧ w'.cell? (ad.add (a0_2.toNat * 3)) = some (Value.bool (rd_T23 l1 a0_2).f0) ∧ w'.cell? { block := (ad.add (a0_2.toNat * 3)).block, off := (ad.add (a0_2.toNat * 3)).off + 1 } = some (Value.int IntKind.i64 (rd_T23 l1 a0_2).f1) ∧ w'.cell? { block := (ad.add (a0_2.toNat * 3)).block, off := (ad.add (a0_2.toNat * 3)).off + 2 } = some (Value.string (rd_T23 l1 a0_2).f2) ∧ Aside0 (Below w.heap.size w w'))
          ((repeat' apply And.intro) <;> (first | assumption | exact pw_cell_below hb' (by assumption) | exact AB_then (by first | assumption | simp only [*]) hb' | exact AB_drew (by first | assumption | simp only [*]) | go_keep))
          (first | (go_at_call 34; refine (hz _).mono ?_; rintro e w' ⟨rfl, hb'⟩))
        rename_i hS
        have BS := hS.2.2.2.2.2.2.2.2.2
        clear hS
        go_wp2
        go_ret
        exact ⟨rfl, BS.out⟩
      · rw [if_neg c5] at H1
        have H2 := Aside0.mk (Option.some.inj H1)
        have hd : decide (a0_2 < (l1.length : Int)) = false := decide_eq_false c5
        have hd2 : decide (0 ≤ a0_2) = true := decide_eq_true c4
        clear H H1
        go_enter Tryd.func17, Tryd.ntmps17
        go_wp2_with fail
        go_quiet (fail)
        go_wp2
        go_ret
        exact ⟨by rw [← H2.out]; rfl, pw_below_drewN (below_alloc (below_alloc (Below.refl _ _) _) _) _⟩
    · rw [if_neg c4] at H1
      have H2 := Aside0.mk (Option.some.inj H1)
      have hd2 : decide (0 ≤ a0_2) = false := decide_eq_false c4
      clear H H1
      go_enter Tryd.func17, Tryd.ntmps17
      go_wp2_with fail
      go_quiet (fail)
      go_wp2
      go_ret
      exact ⟨by rw [← H2.out]; rfl, pw_below_drewN (below_alloc (below_alloc (Below.refl _ _) _) _) _⟩
  · have H1 := H.out
    rw [if_neg c3] at H1
    have e1 : (a0_0 == 1) = false := by simpa using c3
    clear H c3
    have hk : HoldsSaid k l1 := fun x A c A1 c1 r W h1 h2 h3 h4 h5 => IH.out k (by omega) _ _ _ _ _ _ A c x.f2 A1 c1 l1 r W h1 h2 h3 h4 h5
    have eg33 : ∀ args W, (callFunc 33 args).run Tryd.prog W = .ok (.enter 33 args) W := Go.Proofs.enters_of Tryd.func33 (by kernel_rfl) rfl
    have hask : ∀ o1 o2, (((w.alloc o1).alloc o2).cell? ⟨w.heap.size + 1, 0, none⟩ = some (.slice A1 l1.length c1)) → ∀ x, Asks ((w.alloc o1).alloc o2) 33 #[.pointer (some ⟨w.heap.size + 1, 0, none⟩)] (holdsAt k l1) x := fun o1 o2 hc x =>
      Holds1.asks hk (below_alloc (below_alloc (Below.refl _ _) _) _) HR1.out hc1 hc x
    have HASK := Aside0.mk hask
    have HK := Aside0.mk hk
    have EG := Aside0.mk eg33
    clear hask hk eg33 IH
    by_cases c4 : a0_0 = 2
    · rw [if_pos c4] at H1
      subst c4
      have H2 := Aside0.mk H1
      clear H1 e1
      have hcall := fun o1 o2 hc => every.calls 33 #[.pointer (some ⟨w.heap.size + 1, 0, none⟩)] (holdsAt k l1) EG.out A0_6 c0_6 l0_6 ((w.alloc o1).alloc o2) (Kd.C_below HR0_6.out (below_alloc (below_alloc (Below.refl _ _) _) _)) (fun x _ => HASK.out o1 o2 hc x) r H2.out
      go_enter Tryd.func17, Tryd.ntmps17
      go_wp2_with (go_at_call 35; refine (hcall _ _ (by simp [go_sem])).mono ?_; rintro e w' ⟨rfl, hb'⟩)
      go_ret
      exact ⟨rfl, (below_alloc (below_alloc (Below.refl _ _) _) _).trans (hb'.mono (by simp; omega))⟩
    · rw [if_neg c4] at H1
      have e2 : (a0_0 == 2) = false := by simpa using c4
      clear c4
      by_cases c5 : a0_0 = 3
      · rw [if_pos c5] at H1
        subst c5
        have H2 := Aside0.mk H1
        clear H1 e1 e2
        have hcall := fun o1 o2 hc => ContainsFunc.calls 33 #[.pointer (some ⟨w.heap.size + 1, 0, none⟩)] (holdsAt k l1) EG.out A0_6 c0_6 l0_6 ((w.alloc o1).alloc o2) (Kd.C_below HR0_6.out (below_alloc (below_alloc (Below.refl _ _) _) _)) (fun x _ => HASK.out o1 o2 hc x) r H2.out
        go_enter Tryd.func17, Tryd.ntmps17
        go_wp2_with (go_at_call 36; refine (hcall _ _ (by simp [go_sem])).mono ?_; rintro e w' ⟨rfl, hb'⟩)
        go_ret
        exact ⟨rfl, (below_alloc (below_alloc (Below.refl _ _) _) _).trans (hb'.mono (by simp; omega))⟩
      · rw [if_neg c5] at H1
        have e3 : (a0_0 == 3) = false := by simpa using c5
        clear c5
        by_cases c6 : a0_0 = 4
        · rw [if_pos c6] at H1
          subst c6
          clear e1 e2 e3
          cases l0_6 with
          | nil =>
            have H2 := Aside0.mk (Option.some.inj H1)
            clear H1
            have hl0 : ((0 : Int) == 0) = true := rfl
            go_enter Tryd.func17, Tryd.ntmps17
            go_wp2_with fail
            go_ret
            exact ⟨by rw [← H2.out]; rfl, below_alloc (below_alloc (Below.refl _ _) _) _⟩
          | cons q rest =>
            simp only [notO] at H1
            obtain ⟨b0, hb0, hb1⟩ := Option.bind_eq_some_iff.mp H1
            have H2 := Aside0.mk (Option.some.inj hb1)
            have HB0 := Aside0.mk hb0
            clear H1 hb0 hb1
            obtain ⟨ad, cs, e, _, hK, hc⟩ := Kd.C_get HR0_6.out z28 0 (by omega) (by simp)
            cases e
            have hK2 : k28.K w q cs := hK
            obtain ⟨A6, c6, rfl, l6, g6⟩ := k28_open hK2
            have hsz : k28.sz = 7 := rfl
            have f0 := hc 0 _ rfl
            have f1 := hc 1 _ rfl
            have f2 := hc 2 _ rfl
            have f3 := hc 3 _ rfl
            have f4 := hc 4 _ rfl
            have f5 := hc 5 _ rfl
            have f6 := hc 6 _ rfl
            simp only [Int.toNat_zero, Nat.zero_mul, Nat.zero_add, hsz] at f0 f1 f2 f3 f4 f5 f6
            have hl : (((q :: rest).length : Int) == 0) = false := by simp; omega
            have hl2 : (0 : Int) < ((q :: rest).length : Int) := by simp
            have hcall := fun o1 o2 hx => HASK.out o1 o2 hx q b0 A6 c6 ((w.alloc o1).alloc o2) HB0.out (Below.refl _ _) (Kd.C_below g6 (below_alloc (below_alloc (Below.refl _ _) _) _)) l6
            unfold qv at hcall
            have a0 : ad.add 0 = ad := by simp [Addr.add]
            have q1 : ad.add 1 = ⟨ad.block, ad.off + 1, none⟩ := by simp [Addr.add]
            have q2 : ad.add 2 = ⟨ad.block, ad.off + 2, none⟩ := by simp [Addr.add]
            have q3 : ad.add 3 = ⟨ad.block, ad.off + 3, none⟩ := by simp [Addr.add]
            have q4 : ad.add 4 = ⟨ad.block, ad.off + 4, none⟩ := by simp [Addr.add]
            have q5 : ad.add 5 = ⟨ad.block, ad.off + 5, none⟩ := by simp [Addr.add]
            have q6 : ad.add 6 = ⟨ad.block, ad.off + 6, none⟩ := by simp [Addr.add]
            rw [a0] at f0; rw [q1] at f1; rw [q2] at f2; rw [q3] at f3; rw [q4] at f4; rw [q5] at f5; rw [q6] at f6
            have F0 := fun o1 o2 => pw_cell_below (below_alloc (below_alloc (Below.refl w.heap.size w) o1) o2) f0
            have F1 := fun o1 o2 => pw_cell_below (below_alloc (below_alloc (Below.refl w.heap.size w) o1) o2) f1
            have F2 := fun o1 o2 => pw_cell_below (below_alloc (below_alloc (Below.refl w.heap.size w) o1) o2) f2
            have F3 := fun o1 o2 => pw_cell_below (below_alloc (below_alloc (Below.refl w.heap.size w) o1) o2) f3
            have F4 := fun o1 o2 => pw_cell_below (below_alloc (below_alloc (Below.refl w.heap.size w) o1) o2) f4
            have F5 := fun o1 o2 => pw_cell_below (below_alloc (below_alloc (Below.refl w.heap.size w) o1) o2) f5
            have F6 := fun o1 o2 => pw_cell_below (below_alloc (below_alloc (Below.refl w.heap.size w) o1) o2) f6
            clear hc hK hK2 a0 q1 q2 q3 q4 q5 q6 f0 f1 f2 f3 f4 f5 f6
            generalize hgl : (q :: rest).length = n at *
            have n0 : 0 < n := by omega
            clear hgl
            go_enter Tryd.func17, Tryd.ntmps17
            go_wp2_with fail
            refine (show Calls _ _ #[_, _] _ _ from hcall _ _ (by simp [go_sem])).mono ?_
            rintro e w' ⟨rfl, hb'⟩
            go_wp2_with fail
            go_ret
            exact ⟨by rw [← H2.out]; rfl, (below_alloc (below_alloc (Below.refl _ _) _) _).trans (hb'.mono (by simp; omega))⟩
        · rw [if_neg c6] at H1
          have e4 : (a0_0 == 4) = false := by simpa using c6
          have H2 := Aside0.mk (Option.some.inj H1)
          clear H1 c6
          go_enter Tryd.func17, Tryd.ntmps17
          go_wp2_with fail
          go_ret
          exact ⟨by rw [← H2.out]; rfl, below_alloc (below_alloc (Below.refl _ _) _) _⟩
end Go.Proofs.YtglcajijmkianaaDoor.A
