/- query.May and query.Must: what may and what must hold by zones, of any query, told by one function on the query as a tree; on every input. -/
import Derived.Test.YtglcajijmkianaaDoorKAx0
import Derived.Test.YtglcajijmkianaaDoorKAx11
import Derived.Test.YtglcajijmkianaaDoorKAx9
import Derived.Test.YtglcajijmkianaaDoorKHIdx
namespace Go.Proofs.YtglcajijmkianaaDoor.A
open Go.RowKit Go.Proofs.YtglcajijmkianaaDoorW.PrintWords Go.Proofs.YtglcajijmkianaaDoorW.PrintLast Go.Proofs.YtglcajijmkianaaDoorW.PrintMore
set_option linter.unusedVariables false
set_option linter.unusedSimpArgs false
def leafO (k : Nat) (all : Bool) (a : S25) (z : S72) : Option Bool := if all = true then query_sure.f k a.f0 a.f1 a.f2.f0 a.f2.f1 a.f2.f2 z.f0 z.f1 z.f2.f0 z.f2.f1 z.f2.f2 z.f3.f0 z.f3.f1 z.f3.f2 else zone_May.f k a.f0 a.f1 a.f2.f0 a.f2.f1 a.f2.f2 z.f0 z.f1 z.f2.f0 z.f2.f1 z.f2.f2 z.f3.f0 z.f3.f1 z.f3.f2
def knownO : Nat → Bool → List S72 → S28 → Option Bool
  | 0, _, _, _ => none
  | k + 1, all, l1, q =>
    if q.f0 = 1 then (if 0 ≤ q.f1.f1 then (if q.f1.f1 < (l1.length : Int) then leafO k all q.f1 (rd_T72 l1 q.f1.f1) else some false) else some false)
    else if q.f0 = 2 then everyO (fun x => knownO k all l1 x) q.f2
    else if q.f0 = 3 then anyO (fun x => knownO k all l1 x) q.f2
    else if q.f0 = 4 then (match q.f2 with | [] => some true | x :: _ => (knownO k (!all) l1 x).bind fun b => some (!b))
    else some false
theorem known_succ (k : Nat) (all : Bool) (l1 : List S72) (q : S28) : knownO (k + 1) all l1 q =
    (if q.f0 = 1 then (if 0 ≤ q.f1.f1 then (if q.f1.f1 < (l1.length : Int) then leafO k all q.f1 (rd_T72 l1 q.f1.f1) else some false) else some false)
    else if q.f0 = 2 then everyO (knownO k all l1) q.f2
    else if q.f0 = 3 then anyO (knownO k all l1) q.f2
    else if q.f0 = 4 then (match q.f2 with | [] => some true | x :: _ => (knownO k (!all) l1 x).bind fun b => some (!b))
    else some false) := by rfl
def knownF (all : Bool) : FuncId := if all = true then 23 else 21
def KnownSaid (k : Nat) (all : Bool) : Prop := ∀ (q : S28) (A : Option Addr) (c : Nat) (A1 : Option Addr) (c1 : Nat) (l1 : List S72) (r : Bool) (W : World), Kd.C k28 W A q.f2.length q.f2 → q.f2.length ≤ c → Kd.C k72 W A1 l1.length l1 → l1.length ≤ c1 → knownO k all l1 q = some r →
    Calls Tryd.prog (knownF all) #[.agg #[.int .i64 q.f0, .int .i64 q.f1.f0, .int .i64 q.f1.f1, .bool q.f1.f2.f0, .int .i64 q.f1.f2.f1, .string q.f1.f2.f2, .slice A q.f2.length c], .slice A1 l1.length c1] W fun e w' => e = .returned (.bool r) ∧ Below W.heap.size W w'
set_option maxRecDepth 100000 in
set_option maxHeartbeats 2000000 in
theorem May1.asks {k : Nat} {l1 : List S72} (hk : KnownSaid k false) {w w1 : World} {A1 : Option Addr} {c1 bx : Nat} (hw : Below w.heap.size w w1) (hr1 : Kd.C k72 w A1 l1.length l1) (hc1 : l1.length ≤ c1) (hbx : w1.cell? ⟨bx, 0, none⟩ = some (.slice A1 l1.length c1)) (x : S28) :
    Asks w1 40 #[.pointer (some ⟨bx, 0, none⟩)] (knownO k false l1) x := by
  intro b A c W hb hW hC hc
  have hcell := pw_cell_below hW hbx
  have hcell2 : ∀ o, (W.alloc o).cell? ⟨bx, 0, none⟩ = some (.slice A1 l1.length c1) := fun o => pw_cell_below (below_alloc (Below.refl _ _) o) hcell
  have hcall := fun o => hk x A c A1 c1 l1 b (W.alloc o) (Kd.C_below hC (below_alloc (Below.refl _ _) o)) hc (Kd.C_below hr1 (hw.trans (((hW.trans ((below_alloc (Below.refl _ _) o).mono hW.size))).mono hw.size))) hc1 hb
  clear hcell hbx hC hW hw hb hk hr1
  have hu28 := Tryd.underlying28
  unfold qv
  show Calls Tryd.prog 40 #[.agg #[.int .i64 x.f0, .int .i64 x.f1.f0, .int .i64 x.f1.f1, .bool x.f1.f2.f0, .int .i64 x.f1.f2.f1, .string x.f1.f2.f2, .slice A x.f2.length c], .pointer (some ⟨bx, 0, none⟩)] W _
  go_enter Tryd.func40, Tryd.ntmps40
  go_wp2_with (go_at_call 21; refine (hcall _).mono ?_; rintro e w' ⟨rfl, hb'⟩)
  go_ret
  exact ⟨rfl, (below_alloc (Below.refl _ _) _).trans (hb'.mono (by simp))⟩
set_option maxRecDepth 100000 in
set_option maxHeartbeats 4000000 in
theorem May.step (k : Nat) (ih : ∀ j, j < k → KnownSaid j false) (ih2 : ∀ j, j < k → KnownSaid j true) : KnownSaid k false := by
  intro q A c A1 c1 l1 r w hr0 hc0 hr1 hc1 h
  show Calls Tryd.prog 21 #[.agg #[.int .i64 q.f0, .int .i64 q.f1.f0, .int .i64 q.f1.f1, .bool q.f1.f2.f0, .int .i64 q.f1.f2.f1, .string q.f1.f2.f2, .slice A q.f2.length c], .slice A1 l1.length c1] w _
  cases k with
  | zero => exact absurd h (by simp [knownO])
  | succ k =>
  rw [known_succ] at h
  have hu28 := Tryd.underlying28
  have hu25 := Tryd.underlying25
  have hu23 := Tryd.underlying23
  have hu72 := Tryd.underlying72
  have HR0 := Aside0.mk hr0
  have HR1 := Aside0.mk hr1
  have H := Aside0.mk h
  have IH := Aside0.mk ih
  have IH2 := Aside0.mk ih2
  clear hr0 hr1 h ih ih2
  by_cases c3 : q.f0 = 1
  · have H1 := H.out
    rw [if_pos c3] at H1
    have e1 : (q.f0 == 1) = true := by simp [c3]
    clear c3
    by_cases c4 : 0 ≤ q.f1.f1
    · rw [if_pos c4] at H1
      by_cases c5 : q.f1.f1 < (l1.length : Int)
      · rw [if_pos c5] at H1
        simp only [leafO, Bool.false_eq_true, if_false] at H1
        have hz := fun W => zone_May.calls k q.f1.f0 q.f1.f1 q.f1.f2.f0 q.f1.f2.f1 q.f1.f2.f2 (rd_T72 l1 q.f1.f1).f0 (rd_T72 l1 q.f1.f1).f1 (rd_T72 l1 q.f1.f1).f2.f0 (rd_T72 l1 q.f1.f1).f2.f1 (rd_T72 l1 q.f1.f1).f2.f2 (rd_T72 l1 q.f1.f1).f3.f0 (rd_T72 l1 q.f1.f1).f3.f1 (rd_T72 l1 q.f1.f1).f3.f2 r W H1
        clear H H1
        obtain ⟨ad, e, h0, h1, h2, h3, h4, h5, h6, h7⟩ := at_T72 HR1.out q.f1.f1 c4 c5
        cases e
        have hd : decide (q.f1.f1 < (l1.length : Int)) = true := decide_eq_true c5
        have hd2 : decide (0 ≤ q.f1.f1) = true := decide_eq_true c4
        go_enter Tryd.func21, Tryd.ntmps21
        go_wp2_with fail
        generalize hW : (w.alloc _).alloc _ = W
        have BW : Aside0 (Below w.heap.size w W) := ⟨by rw [← hW]; exact below_alloc (below_alloc (Below.refl _ _) _) _⟩
        have g0 := pw_cell_below BW.out h0
        have g1 := pw_cell_below BW.out h1
        have g2 := pw_cell_below BW.out h2
        have g3 := pw_cell_below BW.out h3
        have g4 := pw_cell_below BW.out h4
        have g5 := pw_cell_below BW.out h5
        have g6 := pw_cell_below BW.out h6
        have g7 := pw_cell_below BW.out h7
        have f1 : W.cell? ⟨w.heap.size, 1, none⟩ = some (.int .i64 q.f1.f0) := by rw [← hW]; simp [go_sem]
        have f2 : W.cell? ⟨w.heap.size, 2, none⟩ = some (.int .i64 q.f1.f1) := by rw [← hW]; simp [go_sem]
        have f3 : W.cell? ⟨w.heap.size, 3, none⟩ = some (.bool q.f1.f2.f0) := by rw [← hW]; simp [go_sem]
        have f4 : W.cell? ⟨w.heap.size, 4, none⟩ = some (.int .i64 q.f1.f2.f1) := by rw [← hW]; simp [go_sem]
        have f5 : W.cell? ⟨w.heap.size, 5, none⟩ = some (.string q.f1.f2.f2) := by rw [← hW]; simp [go_sem]
        have fr : W.cell? ⟨w.heap.size + 1, 0, none⟩ = some (.slice (some ad) l1.length c1) := by rw [← hW]; simp [go_sem]
        clear hW h0 h1 h2 h3 h4 h5 h6 h7
        go_region_held3 (fun w' => w'.cell? ⟨w.heap.size, 1, none⟩ = some (.int .i64 q.f1.f0) ∧ w'.cell? ⟨w.heap.size, 2, none⟩ = some (.int .i64 q.f1.f1) ∧ w'.cell? ⟨w.heap.size, 3, none⟩ = some (.bool q.f1.f2.f0) ∧ w'.cell? ⟨w.heap.size, 4, none⟩ = some (.int .i64 q.f1.f2.f1) ∧ w'.cell? ⟨w.heap.size, 5, none⟩ = some (.string q.f1.f2.f2) ∧ w'.cell? ⟨w.heap.size + 1, 0, none⟩ = some (.slice (some ad) l1.length c1) ∧ w'.cell? (ad.add (q.f1.f1.toNat * 8)) = some (Value.bool (rd_T72 l1 q.f1.f1).f0) ∧ w'.cell? { block := (ad.add (q.f1.f1.toNat * 8)).block, off := (ad.add (q.f1.f1.toNat * 8)).off + 1 } = some (Value.bool (rd_T72 l1 q.f1.f1).f1) ∧ w'.cell? { block := (ad.add (q.f1.f1.toNat * 8)).block, off := (ad.add (q.f1.f1.toNat * 8)).off + 2 } = some (Value.bool (rd_T72 l1 q.f1.f1).f2.f0) ∧ w'.cell? { block := (ad.add (q.f1.f1.toNat * 8)).block, off := (ad.add (q.f1.f1.toNat * 8)).off + 3 } = some (Value.int IntKind.i64 (rd_T72 l1 q.f1.f1).f2.f1) ∧ w'.cell? { block := (ad.add (q.f1.f1.toNat * 8)).block, off := (ad.add (q.f1.f1.toNat * 8)).off + 4 } = some (Value.string (rd_T72 l1 q.f1.f1).f2.f2) ∧ w'.cell? { block := (ad.add (q.f1.f1.toNat * 8)).block, off := (ad.add (q.f1.f1.toNat * 8)).off + 5 } = some (Value.bool (rd_T72 l1 q.f1.f1).f3.f0) ∧ w'.cell? { block := (ad.add (q.f1.f1.toNat * 8)).block, off := (ad.add (q.f1.f1.toNat * 8)).off + 6 } = some (Value.int IntKind.i64 (rd_T72 l1 q.f1.f1).f3.f1) ∧ w'.cell? { block := (ad.add (q.f1.f1.toNat * 8)).block, off := (ad.add (q.f1.f1.toNat * 8)).off + 7 } = some (Value.string (rd_T72 l1 q.f1.f1).f3.f2) ∧ Aside0 (Below w.heap.size w w'))
          ((repeat' apply And.intro) <;> (first | assumption | exact pw_cell_below hb' (by assumption) | exact AB_then (by first | assumption | simp only [*]) hb' | exact AB_drew (by first | assumption | simp only [*]) | go_keep))
          (first | (go_at_call 41; refine (hz _).mono ?_; rintro e w' ⟨rfl, hb'⟩))
        rename_i hS
        have BS := hS.2.2.2.2.2.2.2.2.2.2.2.2.2.2
        clear hS
        go_wp2
        go_ret
        exact ⟨rfl, BS.out⟩
      · rw [if_neg c5] at H1
        have H2 := Aside0.mk (Option.some.inj H1)
        have hd : decide (q.f1.f1 < (l1.length : Int)) = false := decide_eq_false c5
        have hd2 : decide (0 ≤ q.f1.f1) = true := decide_eq_true c4
        clear H H1
        go_enter Tryd.func21, Tryd.ntmps21
        go_wp2_with fail
        go_quiet (fail)
        go_wp2
        go_ret
        exact ⟨by rw [← H2.out]; rfl, pw_below_drewN (below_alloc (below_alloc (Below.refl _ _) _) _) _⟩
    · rw [if_neg c4] at H1
      have H2 := Aside0.mk (Option.some.inj H1)
      have hd2 : decide (0 ≤ q.f1.f1) = false := decide_eq_false c4
      clear H H1
      go_enter Tryd.func21, Tryd.ntmps21
      go_wp2_with fail
      go_quiet (fail)
      go_wp2
      go_ret
      exact ⟨by rw [← H2.out]; rfl, pw_below_drewN (below_alloc (below_alloc (Below.refl _ _) _) _) _⟩
  · have H1 := H.out
    rw [if_neg c3] at H1
    have e1 : (q.f0 == 1) = false := by simpa using c3
    clear H c3
    have hk : KnownSaid k false := IH.out k (by omega)
    have eg33 : ∀ args W, (callFunc 40 args).run Tryd.prog W = .ok (.enter 40 args) W := Go.Proofs.enters_of Tryd.func40 (by kernel_rfl) rfl
    have hask : ∀ o1 o2, (((w.alloc o1).alloc o2).cell? ⟨w.heap.size + 1, 0, none⟩ = some (.slice A1 l1.length c1)) → ∀ x, Asks ((w.alloc o1).alloc o2) 40 #[.pointer (some ⟨w.heap.size + 1, 0, none⟩)] (knownO k false l1) x := fun o1 o2 hc x =>
      May1.asks hk (below_alloc (below_alloc (Below.refl _ _) _) _) HR1.out hc1 hc x
    have HASK := Aside0.mk hask
    have EG := Aside0.mk eg33
    clear hask hk eg33 IH
    by_cases c4 : q.f0 = 2
    · rw [if_pos c4] at H1
      have e2 : (q.f0 == 2) = true := by simp [c4]
      have H2 := Aside0.mk H1
      clear H1 c4
      have hcall := fun o1 o2 hc => every.calls 40 #[.pointer (some ⟨w.heap.size + 1, 0, none⟩)] (knownO k false l1) EG.out A c q.f2 ((w.alloc o1).alloc o2) (Kd.C_below HR0.out (below_alloc (below_alloc (Below.refl _ _) _) _)) (fun x _ => HASK.out o1 o2 hc x) r H2.out
      go_enter Tryd.func21, Tryd.ntmps21
      go_wp2_with (go_at_call 35; refine (hcall _ _ (by simp [go_sem])).mono ?_; rintro e w' ⟨rfl, hb'⟩)
      go_ret
      exact ⟨rfl, (below_alloc (below_alloc (Below.refl _ _) _) _).trans (hb'.mono (by simp; omega))⟩
    · rw [if_neg c4] at H1
      have e2 : (q.f0 == 2) = false := by simpa using c4
      clear c4
      by_cases c5 : q.f0 = 3
      · rw [if_pos c5] at H1
        have e3 : (q.f0 == 3) = true := by simp [c5]
        have H2 := Aside0.mk H1
        clear H1 c5
        have hcall := fun o1 o2 hc => ContainsFunc.calls 40 #[.pointer (some ⟨w.heap.size + 1, 0, none⟩)] (knownO k false l1) EG.out A c q.f2 ((w.alloc o1).alloc o2) (Kd.C_below HR0.out (below_alloc (below_alloc (Below.refl _ _) _) _)) (fun x _ => HASK.out o1 o2 hc x) r H2.out
        go_enter Tryd.func21, Tryd.ntmps21
        go_wp2_with (go_at_call 36; refine (hcall _ _ (by simp [go_sem])).mono ?_; rintro e w' ⟨rfl, hb'⟩)
        go_ret
        exact ⟨rfl, (below_alloc (below_alloc (Below.refl _ _) _) _).trans (hb'.mono (by simp; omega))⟩
      · rw [if_neg c5] at H1
        have e3 : (q.f0 == 3) = false := by simpa using c5
        clear c5
        by_cases c6 : q.f0 = 4
        · rw [if_pos c6] at H1
          have e4 : (q.f0 == 4) = true := by simp [c6]
          clear c6 HASK EG
          generalize hl6 : q.f2 = l6 at H1 HR0 hc0 ⊢
          clear hl6
          cases l6 with
          | nil =>
            have H2 := Aside0.mk (Option.some.inj H1)
            clear H1
            have hl0 : ((0 : Int) == 0) = true := rfl
            go_enter Tryd.func21, Tryd.ntmps21
            go_wp2_with fail
            go_quiet (fail)
            go_wp2
            go_ret
            exact ⟨by rw [← H2.out]; rfl, pw_below_drewN (below_alloc (below_alloc (Below.refl _ _) _) _) _⟩
          | cons x rest =>
            obtain ⟨b0, hb0, hb1⟩ := Option.bind_eq_some_iff.mp H1
            have H2 := Aside0.mk (Option.some.inj hb1)
            have HB0 := Aside0.mk hb0
            clear H1 hb0 hb1
            obtain ⟨ad, cs, e, _, hK, hc⟩ := Kd.C_get HR0.out z28 0 (by omega) (by simp)
            cases e
            have hK2 : k28.K w x cs := hK
            obtain ⟨A6, c6, rfl, l6, g6⟩ := k28_open hK2
            have hsz : k28.sz = 7 := rfl
            have f0 := hc 0 _ rfl
            have f1 := hc 1 _ rfl
            have f2 := hc 2 _ rfl
            have f3 := hc 3 _ rfl
            have f4 := hc 4 _ rfl
            have f5 := hc 5 _ rfl
            have f6 := hc 6 _ rfl
            simp only [Int.toNat_zero, Nat.zero_mul, Nat.zero_add, hsz] at f0 f1 f2 f3 f4 f5 f6
            have hl : (((x :: rest).length : Int) == 0) = false := by simp; omega
            have hl2 : (0 : Int) < ((x :: rest).length : Int) := by simp
            have HCfalse := Aside0.mk (fun W (hW : Below w.heap.size w W) => IH2.out k (by omega) x A6 c6 A1 c1 l1 b0 W (Kd.C_below g6 hW) l6 (Kd.C_below HR1.out hW) hc1 HB0.out)
            unfold knownF at HCfalse
            simp only [if_true] at HCfalse
            have a0 : ad.add 0 = ad := by simp [Addr.add]
            have q1 : ad.add 1 = ⟨ad.block, ad.off + 1, none⟩ := by simp [Addr.add]
            have q2 : ad.add 2 = ⟨ad.block, ad.off + 2, none⟩ := by simp [Addr.add]
            have q3 : ad.add 3 = ⟨ad.block, ad.off + 3, none⟩ := by simp [Addr.add]
            have q4 : ad.add 4 = ⟨ad.block, ad.off + 4, none⟩ := by simp [Addr.add]
            have q5 : ad.add 5 = ⟨ad.block, ad.off + 5, none⟩ := by simp [Addr.add]
            have q6 : ad.add 6 = ⟨ad.block, ad.off + 6, none⟩ := by simp [Addr.add]
            rw [a0] at f0; rw [q1] at f1; rw [q2] at f2; rw [q3] at f3; rw [q4] at f4; rw [q5] at f5; rw [q6] at f6
            clear hc hK hK2 a0 q1 q2 q3 q4 q5 q6 HB0 HR0
            generalize hgl : (x :: rest).length = n at *
            have n0 : 0 < n := by omega
            clear hgl
            go_enter Tryd.func21, Tryd.ntmps21
            go_wp2_with fail
            generalize hW : (w.alloc _).alloc _ = W
            have BW : Aside0 (Below w.heap.size w W) := ⟨by rw [← hW]; exact below_alloc (below_alloc (Below.refl _ _) _) _⟩
            have g0 := pw_cell_below BW.out f0
            have g1 := pw_cell_below BW.out f1
            have g2 := pw_cell_below BW.out f2
            have g3 := pw_cell_below BW.out f3
            have g4 := pw_cell_below BW.out f4
            have g5 := pw_cell_below BW.out f5
            have g6 := pw_cell_below BW.out f6
            have fk : W.cell? ⟨w.heap.size, 6, none⟩ = some (.slice (some ad) n c) := by rw [← hW]; simp [go_sem]
            have fr : W.cell? ⟨w.heap.size + 1, 0, none⟩ = some (.slice A1 l1.length c1) := by rw [← hW]; simp [go_sem]
            clear hW f0 f1 f2 f3 f4 f5 f6
            go_region_held3 (fun w' => w'.cell? ⟨w.heap.size, 6, none⟩ = some (.slice (some ad) n c) ∧ w'.cell? ⟨w.heap.size + 1, 0, none⟩ = some (.slice A1 l1.length c1) ∧ w'.cell? ad = some (.int .i64 x.f0) ∧ w'.cell? ⟨ad.block, ad.off + 1, none⟩ = some (.int .i64 x.f1.f0) ∧ w'.cell? ⟨ad.block, ad.off + 2, none⟩ = some (.int .i64 x.f1.f1) ∧ w'.cell? ⟨ad.block, ad.off + 3, none⟩ = some (.bool x.f1.f2.f0) ∧ w'.cell? ⟨ad.block, ad.off + 4, none⟩ = some (.int .i64 x.f1.f2.f1) ∧ w'.cell? ⟨ad.block, ad.off + 5, none⟩ = some (.string x.f1.f2.f2) ∧ w'.cell? ⟨ad.block, ad.off + 6, none⟩ = some (.slice A6 x.f2.length c6) ∧ Aside0 (Below w.heap.size w w'))
              ((repeat' apply And.intro) <;> (first | assumption | exact pw_cell_below hb' (by assumption) | exact AB_then (by first | assumption | simp only [*]) hb' | exact AB_drew (by first | assumption | simp only [*]) | go_keep))
              (first | (go_at_call 23; refine (HCfalse.out _ (below_drew BW.out)).mono ?_; rintro e w' ⟨rfl, hb'⟩))
            rename_i hS
            have BS := hS.2.2.2.2.2.2.2.2.2
            clear hS
            go_wp2
            go_ret
            exact ⟨by rw [← H2.out]; rfl, BS.out⟩
        · rw [if_neg c6] at H1
          have e4 : (q.f0 == 4) = false := by simpa using c6
          have H2 := Aside0.mk (Option.some.inj H1)
          clear H1 c6
          go_enter Tryd.func21, Tryd.ntmps21
          go_wp2_with fail
          go_ret
          exact ⟨by rw [← H2.out]; rfl, below_alloc (below_alloc (Below.refl _ _) _) _⟩
set_option maxRecDepth 100000 in
set_option maxHeartbeats 2000000 in
theorem Must1.asks {k : Nat} {l1 : List S72} (hk : KnownSaid k true) {w w1 : World} {A1 : Option Addr} {c1 bx : Nat} (hw : Below w.heap.size w w1) (hr1 : Kd.C k72 w A1 l1.length l1) (hc1 : l1.length ≤ c1) (hbx : w1.cell? ⟨bx, 0, none⟩ = some (.slice A1 l1.length c1)) (x : S28) :
    Asks w1 44 #[.pointer (some ⟨bx, 0, none⟩)] (knownO k true l1) x := by
  intro b A c W hb hW hC hc
  have hcell := pw_cell_below hW hbx
  have hcell2 : ∀ o, (W.alloc o).cell? ⟨bx, 0, none⟩ = some (.slice A1 l1.length c1) := fun o => pw_cell_below (below_alloc (Below.refl _ _) o) hcell
  have hcall := fun o => hk x A c A1 c1 l1 b (W.alloc o) (Kd.C_below hC (below_alloc (Below.refl _ _) o)) hc (Kd.C_below hr1 (hw.trans (((hW.trans ((below_alloc (Below.refl _ _) o).mono hW.size))).mono hw.size))) hc1 hb
  clear hcell hbx hC hW hw hb hk hr1
  have hu28 := Tryd.underlying28
  unfold qv
  show Calls Tryd.prog 44 #[.agg #[.int .i64 x.f0, .int .i64 x.f1.f0, .int .i64 x.f1.f1, .bool x.f1.f2.f0, .int .i64 x.f1.f2.f1, .string x.f1.f2.f2, .slice A x.f2.length c], .pointer (some ⟨bx, 0, none⟩)] W _
  go_enter Tryd.func44, Tryd.ntmps44
  go_wp2_with (go_at_call 23; refine (hcall _).mono ?_; rintro e w' ⟨rfl, hb'⟩)
  go_ret
  exact ⟨rfl, (below_alloc (Below.refl _ _) _).trans (hb'.mono (by simp))⟩
set_option maxRecDepth 100000 in
set_option maxHeartbeats 4000000 in
theorem Must.step (k : Nat) (ih : ∀ j, j < k → KnownSaid j true) (ih2 : ∀ j, j < k → KnownSaid j false) : KnownSaid k true := by
  intro q A c A1 c1 l1 r w hr0 hc0 hr1 hc1 h
  show Calls Tryd.prog 23 #[.agg #[.int .i64 q.f0, .int .i64 q.f1.f0, .int .i64 q.f1.f1, .bool q.f1.f2.f0, .int .i64 q.f1.f2.f1, .string q.f1.f2.f2, .slice A q.f2.length c], .slice A1 l1.length c1] w _
  cases k with
  | zero => exact absurd h (by simp [knownO])
  | succ k =>
  rw [known_succ] at h
  have hu28 := Tryd.underlying28
  have hu25 := Tryd.underlying25
  have hu23 := Tryd.underlying23
  have hu72 := Tryd.underlying72
  have HR0 := Aside0.mk hr0
  have HR1 := Aside0.mk hr1
  have H := Aside0.mk h
  have IH := Aside0.mk ih
  have IH2 := Aside0.mk ih2
  clear hr0 hr1 h ih ih2
  by_cases c3 : q.f0 = 1
  · have H1 := H.out
    rw [if_pos c3] at H1
    have e1 : (q.f0 == 1) = true := by simp [c3]
    clear c3
    by_cases c4 : 0 ≤ q.f1.f1
    · rw [if_pos c4] at H1
      by_cases c5 : q.f1.f1 < (l1.length : Int)
      · rw [if_pos c5] at H1
        simp only [leafO, if_true] at H1
        have hz := fun W => query_sure.calls k q.f1.f0 q.f1.f1 q.f1.f2.f0 q.f1.f2.f1 q.f1.f2.f2 (rd_T72 l1 q.f1.f1).f0 (rd_T72 l1 q.f1.f1).f1 (rd_T72 l1 q.f1.f1).f2.f0 (rd_T72 l1 q.f1.f1).f2.f1 (rd_T72 l1 q.f1.f1).f2.f2 (rd_T72 l1 q.f1.f1).f3.f0 (rd_T72 l1 q.f1.f1).f3.f1 (rd_T72 l1 q.f1.f1).f3.f2 r W H1
        clear H H1
        obtain ⟨ad, e, h0, h1, h2, h3, h4, h5, h6, h7⟩ := at_T72 HR1.out q.f1.f1 c4 c5
        cases e
        have hd : decide (q.f1.f1 < (l1.length : Int)) = true := decide_eq_true c5
        have hd2 : decide (0 ≤ q.f1.f1) = true := decide_eq_true c4
        go_enter Tryd.func23, Tryd.ntmps23
        go_wp2_with fail
        generalize hW : (w.alloc _).alloc _ = W
        have BW : Aside0 (Below w.heap.size w W) := ⟨by rw [← hW]; exact below_alloc (below_alloc (Below.refl _ _) _) _⟩
        have g0 := pw_cell_below BW.out h0
        have g1 := pw_cell_below BW.out h1
        have g2 := pw_cell_below BW.out h2
        have g3 := pw_cell_below BW.out h3
        have g4 := pw_cell_below BW.out h4
        have g5 := pw_cell_below BW.out h5
        have g6 := pw_cell_below BW.out h6
        have g7 := pw_cell_below BW.out h7
        have f1 : W.cell? ⟨w.heap.size, 1, none⟩ = some (.int .i64 q.f1.f0) := by rw [← hW]; simp [go_sem]
        have f2 : W.cell? ⟨w.heap.size, 2, none⟩ = some (.int .i64 q.f1.f1) := by rw [← hW]; simp [go_sem]
        have f3 : W.cell? ⟨w.heap.size, 3, none⟩ = some (.bool q.f1.f2.f0) := by rw [← hW]; simp [go_sem]
        have f4 : W.cell? ⟨w.heap.size, 4, none⟩ = some (.int .i64 q.f1.f2.f1) := by rw [← hW]; simp [go_sem]
        have f5 : W.cell? ⟨w.heap.size, 5, none⟩ = some (.string q.f1.f2.f2) := by rw [← hW]; simp [go_sem]
        have fr : W.cell? ⟨w.heap.size + 1, 0, none⟩ = some (.slice (some ad) l1.length c1) := by rw [← hW]; simp [go_sem]
        clear hW h0 h1 h2 h3 h4 h5 h6 h7
        go_region_held3 (fun w' => w'.cell? ⟨w.heap.size, 1, none⟩ = some (.int .i64 q.f1.f0) ∧ w'.cell? ⟨w.heap.size, 2, none⟩ = some (.int .i64 q.f1.f1) ∧ w'.cell? ⟨w.heap.size, 3, none⟩ = some (.bool q.f1.f2.f0) ∧ w'.cell? ⟨w.heap.size, 4, none⟩ = some (.int .i64 q.f1.f2.f1) ∧ w'.cell? ⟨w.heap.size, 5, none⟩ = some (.string q.f1.f2.f2) ∧ w'.cell? ⟨w.heap.size + 1, 0, none⟩ = some (.slice (some ad) l1.length c1) ∧ w'.cell? (ad.add (q.f1.f1.toNat * 8)) = some (Value.bool (rd_T72 l1 q.f1.f1).f0) ∧ w'.cell? { block := (ad.add (q.f1.f1.toNat * 8)).block, off := (ad.add (q.f1.f1.toNat * 8)).off + 1 } = some (Value.bool (rd_T72 l1 q.f1.f1).f1) ∧ w'.cell? { block := (ad.add (q.f1.f1.toNat * 8)).block, off := (ad.add (q.f1.f1.toNat * 8)).off + 2 } = some (Value.bool (rd_T72 l1 q.f1.f1).f2.f0) ∧ w'.cell? { block := (ad.add (q.f1.f1.toNat * 8)).block, off := (ad.add (q.f1.f1.toNat * 8)).off + 3 } = some (Value.int IntKind.i64 (rd_T72 l1 q.f1.f1).f2.f1) ∧ w'.cell? { block := (ad.add (q.f1.f1.toNat * 8)).block, off := (ad.add (q.f1.f1.toNat * 8)).off + 4 } = some (Value.string (rd_T72 l1 q.f1.f1).f2.f2) ∧ w'.cell? { block := (ad.add (q.f1.f1.toNat * 8)).block, off := (ad.add (q.f1.f1.toNat * 8)).off + 5 } = some (Value.bool (rd_T72 l1 q.f1.f1).f3.f0) ∧ w'.cell? { block := (ad.add (q.f1.f1.toNat * 8)).block, off := (ad.add (q.f1.f1.toNat * 8)).off + 6 } = some (Value.int IntKind.i64 (rd_T72 l1 q.f1.f1).f3.f1) ∧ w'.cell? { block := (ad.add (q.f1.f1.toNat * 8)).block, off := (ad.add (q.f1.f1.toNat * 8)).off + 7 } = some (Value.string (rd_T72 l1 q.f1.f1).f3.f2) ∧ Aside0 (Below w.heap.size w w'))
          ((repeat' apply And.intro) <;> (first | assumption | exact pw_cell_below hb' (by assumption) | exact AB_then (by first | assumption | simp only [*]) hb' | exact AB_drew (by first | assumption | simp only [*]) | go_keep))
          (first | (go_at_call 45; refine (hz _).mono ?_; rintro e w' ⟨rfl, hb'⟩))
        rename_i hS
        have BS := hS.2.2.2.2.2.2.2.2.2.2.2.2.2.2
        clear hS
        go_wp2
        go_ret
        exact ⟨rfl, BS.out⟩
      · rw [if_neg c5] at H1
        have H2 := Aside0.mk (Option.some.inj H1)
        have hd : decide (q.f1.f1 < (l1.length : Int)) = false := decide_eq_false c5
        have hd2 : decide (0 ≤ q.f1.f1) = true := decide_eq_true c4
        clear H H1
        go_enter Tryd.func23, Tryd.ntmps23
        go_wp2_with fail
        go_quiet (fail)
        go_wp2
        go_ret
        exact ⟨by rw [← H2.out]; rfl, pw_below_drewN (below_alloc (below_alloc (Below.refl _ _) _) _) _⟩
    · rw [if_neg c4] at H1
      have H2 := Aside0.mk (Option.some.inj H1)
      have hd2 : decide (0 ≤ q.f1.f1) = false := decide_eq_false c4
      clear H H1
      go_enter Tryd.func23, Tryd.ntmps23
      go_wp2_with fail
      go_quiet (fail)
      go_wp2
      go_ret
      exact ⟨by rw [← H2.out]; rfl, pw_below_drewN (below_alloc (below_alloc (Below.refl _ _) _) _) _⟩
  · have H1 := H.out
    rw [if_neg c3] at H1
    have e1 : (q.f0 == 1) = false := by simpa using c3
    clear H c3
    have hk : KnownSaid k true := IH.out k (by omega)
    have eg33 : ∀ args W, (callFunc 44 args).run Tryd.prog W = .ok (.enter 44 args) W := Go.Proofs.enters_of Tryd.func44 (by kernel_rfl) rfl
    have hask : ∀ o1 o2, (((w.alloc o1).alloc o2).cell? ⟨w.heap.size + 1, 0, none⟩ = some (.slice A1 l1.length c1)) → ∀ x, Asks ((w.alloc o1).alloc o2) 44 #[.pointer (some ⟨w.heap.size + 1, 0, none⟩)] (knownO k true l1) x := fun o1 o2 hc x =>
      Must1.asks hk (below_alloc (below_alloc (Below.refl _ _) _) _) HR1.out hc1 hc x
    have HASK := Aside0.mk hask
    have EG := Aside0.mk eg33
    clear hask hk eg33 IH
    by_cases c4 : q.f0 = 2
    · rw [if_pos c4] at H1
      have e2 : (q.f0 == 2) = true := by simp [c4]
      have H2 := Aside0.mk H1
      clear H1 c4
      have hcall := fun o1 o2 hc => every.calls 44 #[.pointer (some ⟨w.heap.size + 1, 0, none⟩)] (knownO k true l1) EG.out A c q.f2 ((w.alloc o1).alloc o2) (Kd.C_below HR0.out (below_alloc (below_alloc (Below.refl _ _) _) _)) (fun x _ => HASK.out o1 o2 hc x) r H2.out
      go_enter Tryd.func23, Tryd.ntmps23
      go_wp2_with (go_at_call 35; refine (hcall _ _ (by simp [go_sem])).mono ?_; rintro e w' ⟨rfl, hb'⟩)
      go_ret
      exact ⟨rfl, (below_alloc (below_alloc (Below.refl _ _) _) _).trans (hb'.mono (by simp; omega))⟩
    · rw [if_neg c4] at H1
      have e2 : (q.f0 == 2) = false := by simpa using c4
      clear c4
      by_cases c5 : q.f0 = 3
      · rw [if_pos c5] at H1
        have e3 : (q.f0 == 3) = true := by simp [c5]
        have H2 := Aside0.mk H1
        clear H1 c5
        have hcall := fun o1 o2 hc => ContainsFunc.calls 44 #[.pointer (some ⟨w.heap.size + 1, 0, none⟩)] (knownO k true l1) EG.out A c q.f2 ((w.alloc o1).alloc o2) (Kd.C_below HR0.out (below_alloc (below_alloc (Below.refl _ _) _) _)) (fun x _ => HASK.out o1 o2 hc x) r H2.out
        go_enter Tryd.func23, Tryd.ntmps23
        go_wp2_with (go_at_call 36; refine (hcall _ _ (by simp [go_sem])).mono ?_; rintro e w' ⟨rfl, hb'⟩)
        go_ret
        exact ⟨rfl, (below_alloc (below_alloc (Below.refl _ _) _) _).trans (hb'.mono (by simp; omega))⟩
      · rw [if_neg c5] at H1
        have e3 : (q.f0 == 3) = false := by simpa using c5
        clear c5
        by_cases c6 : q.f0 = 4
        · rw [if_pos c6] at H1
          have e4 : (q.f0 == 4) = true := by simp [c6]
          clear c6 HASK EG
          generalize hl6 : q.f2 = l6 at H1 HR0 hc0 ⊢
          clear hl6
          cases l6 with
          | nil =>
            have H2 := Aside0.mk (Option.some.inj H1)
            clear H1
            have hl0 : ((0 : Int) == 0) = true := rfl
            go_enter Tryd.func23, Tryd.ntmps23
            go_wp2_with fail
            go_quiet (fail)
            go_wp2
            go_ret
            exact ⟨by rw [← H2.out]; rfl, pw_below_drewN (below_alloc (below_alloc (Below.refl _ _) _) _) _⟩
          | cons x rest =>
            obtain ⟨b0, hb0, hb1⟩ := Option.bind_eq_some_iff.mp H1
            have H2 := Aside0.mk (Option.some.inj hb1)
            have HB0 := Aside0.mk hb0
            clear H1 hb0 hb1
            obtain ⟨ad, cs, e, _, hK, hc⟩ := Kd.C_get HR0.out z28 0 (by omega) (by simp)
            cases e
            have hK2 : k28.K w x cs := hK
            obtain ⟨A6, c6, rfl, l6, g6⟩ := k28_open hK2
            have hsz : k28.sz = 7 := rfl
            have f0 := hc 0 _ rfl
            have f1 := hc 1 _ rfl
            have f2 := hc 2 _ rfl
            have f3 := hc 3 _ rfl
            have f4 := hc 4 _ rfl
            have f5 := hc 5 _ rfl
            have f6 := hc 6 _ rfl
            simp only [Int.toNat_zero, Nat.zero_mul, Nat.zero_add, hsz] at f0 f1 f2 f3 f4 f5 f6
            have hl : (((x :: rest).length : Int) == 0) = false := by simp; omega
            have hl2 : (0 : Int) < ((x :: rest).length : Int) := by simp
            have HCtrue := Aside0.mk (fun W (hW : Below w.heap.size w W) => IH2.out k (by omega) x A6 c6 A1 c1 l1 b0 W (Kd.C_below g6 hW) l6 (Kd.C_below HR1.out hW) hc1 HB0.out)
            unfold knownF at HCtrue
            simp only [Bool.false_eq_true, if_false] at HCtrue
            have a0 : ad.add 0 = ad := by simp [Addr.add]
            have q1 : ad.add 1 = ⟨ad.block, ad.off + 1, none⟩ := by simp [Addr.add]
            have q2 : ad.add 2 = ⟨ad.block, ad.off + 2, none⟩ := by simp [Addr.add]
            have q3 : ad.add 3 = ⟨ad.block, ad.off + 3, none⟩ := by simp [Addr.add]
            have q4 : ad.add 4 = ⟨ad.block, ad.off + 4, none⟩ := by simp [Addr.add]
            have q5 : ad.add 5 = ⟨ad.block, ad.off + 5, none⟩ := by simp [Addr.add]
            have q6 : ad.add 6 = ⟨ad.block, ad.off + 6, none⟩ := by simp [Addr.add]
            rw [a0] at f0; rw [q1] at f1; rw [q2] at f2; rw [q3] at f3; rw [q4] at f4; rw [q5] at f5; rw [q6] at f6
            clear hc hK hK2 a0 q1 q2 q3 q4 q5 q6 HB0 HR0
            generalize hgl : (x :: rest).length = n at *
            have n0 : 0 < n := by omega
            clear hgl
            go_enter Tryd.func23, Tryd.ntmps23
            go_wp2_with fail
            generalize hW : (w.alloc _).alloc _ = W
            have BW : Aside0 (Below w.heap.size w W) := ⟨by rw [← hW]; exact below_alloc (below_alloc (Below.refl _ _) _) _⟩
            have g0 := pw_cell_below BW.out f0
            have g1 := pw_cell_below BW.out f1
            have g2 := pw_cell_below BW.out f2
            have g3 := pw_cell_below BW.out f3
            have g4 := pw_cell_below BW.out f4
            have g5 := pw_cell_below BW.out f5
            have g6 := pw_cell_below BW.out f6
            have fk : W.cell? ⟨w.heap.size, 6, none⟩ = some (.slice (some ad) n c) := by rw [← hW]; simp [go_sem]
            have fr : W.cell? ⟨w.heap.size + 1, 0, none⟩ = some (.slice A1 l1.length c1) := by rw [← hW]; simp [go_sem]
            clear hW f0 f1 f2 f3 f4 f5 f6
            go_region_held3 (fun w' => w'.cell? ⟨w.heap.size, 6, none⟩ = some (.slice (some ad) n c) ∧ w'.cell? ⟨w.heap.size + 1, 0, none⟩ = some (.slice A1 l1.length c1) ∧ w'.cell? ad = some (.int .i64 x.f0) ∧ w'.cell? ⟨ad.block, ad.off + 1, none⟩ = some (.int .i64 x.f1.f0) ∧ w'.cell? ⟨ad.block, ad.off + 2, none⟩ = some (.int .i64 x.f1.f1) ∧ w'.cell? ⟨ad.block, ad.off + 3, none⟩ = some (.bool x.f1.f2.f0) ∧ w'.cell? ⟨ad.block, ad.off + 4, none⟩ = some (.int .i64 x.f1.f2.f1) ∧ w'.cell? ⟨ad.block, ad.off + 5, none⟩ = some (.string x.f1.f2.f2) ∧ w'.cell? ⟨ad.block, ad.off + 6, none⟩ = some (.slice A6 x.f2.length c6) ∧ Aside0 (Below w.heap.size w w'))
              ((repeat' apply And.intro) <;> (first | assumption | exact pw_cell_below hb' (by assumption) | exact AB_then (by first | assumption | simp only [*]) hb' | exact AB_drew (by first | assumption | simp only [*]) | go_keep))
              (first | (go_at_call 21; refine (HCtrue.out _ (below_drew BW.out)).mono ?_; rintro e w' ⟨rfl, hb'⟩))
            rename_i hS
            have BS := hS.2.2.2.2.2.2.2.2.2
            clear hS
            go_wp2
            go_ret
            exact ⟨by rw [← H2.out]; rfl, BS.out⟩
        · rw [if_neg c6] at H1
          have e4 : (q.f0 == 4) = false := by simpa using c6
          have H2 := Aside0.mk (Option.some.inj H1)
          clear H1 c6
          go_enter Tryd.func23, Tryd.ntmps23
          go_wp2_with fail
          go_ret
          exact ⟨by rw [← H2.out]; rfl, below_alloc (below_alloc (Below.refl _ _) _) _⟩
theorem known.calls (k : Nat) : ∀ all, KnownSaid k all := by
  induction k using Nat.strongRecOn with
  | _ k ih =>
  intro all
  cases all with
  | false => exact May.step k (fun j hj => ih j hj false) (fun j hj => ih j hj true)
  | true => exact Must.step k (fun j hj => ih j hj true) (fun j hj => ih j hj false)
end Go.Proofs.YtglcajijmkianaaDoor.A
