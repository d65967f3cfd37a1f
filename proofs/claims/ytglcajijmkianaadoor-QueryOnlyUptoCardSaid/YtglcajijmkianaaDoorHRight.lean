/- Which queries may be, with so many within one another; on every query. -/
import Derived.Test.YtglcajijmkianaaDoorAx0
import Derived.Test.YtglcajijmkianaaDoorAx1
import Derived.Test.YtglcajijmkianaaDoorHRightAsk
import Derived.Test.YtglcajijmkianaaDoorHIdx
import Derived.Test.YtglcajijmkianaaDoorHQuery
import Derived.Maps.Own
import Derived.Maps.OwnOps
namespace Go.Proofs.YtglcajijmkianaaDoor.A
open Go.RowKit Go.Proofs.YtglcajijmkianaaDoorW.PrintWords Go.Proofs.YtglcajijmkianaaDoorW.PrintLast Go.Proofs.YtglcajijmkianaaDoorW.PrintMore
open Go.Lib Go.Maps
set_option linter.unusedVariables false
set_option linter.unusedSimpArgs false
theorem eqA25 (d : Nat) (w : World) (x0 y0 : Int) (x1 y1 : Int) (x2 y2 : Bool) (x3 y3 : Int) (x4 y4 : ByteArray) :
    (Op.equalIn (d + 3) 25 (.agg #[.int .i64 x0, .int .i64 x1, .bool x2, .int .i64 x3, .string x4]) (.agg #[.int .i64 y0, .int .i64 y1, .bool y2, .int .i64 y3, .string y4])).run Tryd.prog w = .ok (x0 == y0 && (x1 == y1 && ((x2 == y2 && (x3 == y3 && (x4.toList == y4.toList)))))) w := by
  refine eqA_of Tryd.underlying25 (by kernel_rfl) ?_
  refine eqf_cons (by rfl) (by go_simp; rfl) (by go_simp; rfl) (by go_simp) ?_
  refine eqf_cons (by rfl) (by go_simp; rfl) (by go_simp; rfl) (by go_simp) ?_
  exact eqf_last (by rfl) (by go_simp) (by go_simp) (eqA23 (d + 0) w _ _ _ _ _ _)
attribute [local go_sem high] eqA23 eqA25

def kidsN (op : Int) : Nat := if op = 2 ∨ op = 3 then 2 else if op = 4 then 1 else 0
def bareAsk (a : S25) : Bool := a.f0 == 0 && (a.f1 == 0 && (!a.f2.f0 && (a.f2.f1 == 0 && a.f2.f2.toList.isEmpty)))
def wf64 (n : Int) : Bool := (Lit.int .i64 n).wf
def rightO : Nat → S28 → Option Bool
  | 0, q => if wf64 q.f0 = false then none else some false
  | left + 1, q => if wf64 q.f0 = false then none else if q.f2.length ≠ kidsN q.f0 then some false else if q.f0 = 1 then some (rightAskF q.f1) else if kidsN q.f0 = 0 then some false else if bareAsk q.f1 = false then some false else everyO (fun k => rightO left k) q.f2

abbrev D3 {H : Type} : DataW H := .map [(.int .i64 2, .lit (.int .i64 2)), (.int .i64 3, .lit (.int .i64 2)), (.int .i64 4, .lit (.int .i64 1))]
theorem D3_at {H : Type} (k : Int) : (D3 (H := H)).atKey (.int .i64 k) (.lit (.int .i64 0)) = .lit (.int .i64 (kidsN k)) := by
  unfold kidsN
  by_cases h2 : k = 2
  · subst h2; rfl
  · by_cases h3 : k = 3
    · subst h3; rfl
    · by_cases h4 : k = 4
      · subst h4; rfl
      · rw [if_neg (by omega), if_neg h4]
        have e2 : ¬ (2 : Int) = k := fun e => h2 e.symm
        have e3 : ¬ (3 : Int) = k := fun e => h3 e.symm
        have e4 : ¬ (4 : Int) = k := fun e => h4 e.symm
        simp [D3, DataW.atKey, List.find?, Lit.sameKey, e2, e3, e4]

/-- What the map literal and the lookup come to. -/
theorem map_steps (W : World) (k : Int) (hk : wf64 k = true) : ∃ w1 w2 w3, (Instr.mapUpdate 73 (.map (some W.heap.size)) (.int .i64 2) (.int .i64 2)).run Tryd.prog (W.alloc (.map #[] 0)) = .ok () w1 ∧
    (Instr.mapUpdate 73 (.map (some W.heap.size)) (.int .i64 3) (.int .i64 2)).run Tryd.prog w1 = .ok () w2 ∧ (Instr.mapUpdate 73 (.map (some W.heap.size)) (.int .i64 4) (.int .i64 1)).run Tryd.prog w2 = .ok () w3 ∧
    (Instr.lookup 73 (.map (some W.heap.size)) (.int .i64 k) false).run Tryd.prog w3 = .ok (.int .i64 (kidsN k)) w3 ∧ Below W.heap.size W w3 := by
  have K := Maps.int_keyed Tryd.underlying3
  have h0 := World.ownsMap_made (H := Unit) W Tryd.prog 3 (plainElem Tryd.prog 3)
  obtain ⟨w1, r1, o1, g1⟩ := h0.update K Tryd.underlying73 (by decide) (Maps.keyOf_int_mk (a := 2) Tryd.underlying3 (by decide)) (Go.plainElem_int (a := 2) Tryd.underlying3 (by decide))
  obtain ⟨w2, r2, o2, g2⟩ := o1.update K Tryd.underlying73 (by decide) (Maps.keyOf_int_mk (a := 3) Tryd.underlying3 (by decide)) (Go.plainElem_int (a := 2) Tryd.underlying3 (by decide))
  obtain ⟨w3, r3, o3, g3⟩ := o2.update K Tryd.underlying73 (by decide) (Maps.keyOf_int_mk (a := 4) Tryd.underlying3 (by decide)) (Go.plainElem_int (a := 1) Tryd.underlying3 (by decide))
  obtain ⟨c, rl, hat, _⟩ := o3.lookup_int K Tryd.underlying73 Tryd.underlying3 (by kernel_rfl) (Maps.keyOf_int_mk (a := k) Tryd.underlying3 hk)
  have hc : c = (kidsN k : Int) := by
    have e := D3_at (H := Unit) k
    rw [show (D3 (H := Unit)) = (((DataW.map ([] : List (Lit × DataW Unit))).put (.int .i64 2) (.lit (.int .i64 2))).put (.int .i64 3) (.lit (.int .i64 2))).put (.int .i64 4) (.lit (.int .i64 1)) from rfl] at e
    have := hat.symm.trans e
    simpa using this
  subst hc
  refine ⟨w1, w2, w3, r1, r2, r3, rl, ?_⟩
  have b0 := below_alloc (Below.refl W.heap.size W) (.map #[] 0)
  have hs : W.heap.size ≤ (W.alloc (.map #[] 0)).heap.size := b0.size
  have b1 := b0.grown g1 hs (fun j e => by cases e; exact Nat.le_refl _)
  have b2 := b1.grown g2 b1.size (fun j e => by cases e; exact Nat.le_refl _)
  exact b2.grown g3 b2.size (fun j e => by cases e; exact Nat.le_refl _)

def RightSaid (left : Nat) : Prop := ∀ (n : Int) (x : S28) (A : Option Addr) (c : Nat) (r : Bool) (w : World), n = left → Kd.C k28 w A x.f2.length x.f2 → x.f2.length ≤ c → rightO left x = some r →
    Calls Tryd.prog 24 #[.agg #[.int .i64 x.f0, .int .i64 x.f1.f0, .int .i64 x.f1.f1, .bool x.f1.f2.f0, .int .i64 x.f1.f2.f1, .string x.f1.f2.f2, .slice A x.f2.length c], .int .i64 n] w fun e w' => e = .returned (.bool r) ∧ Below w.heap.size w w'

set_option maxRecDepth 100000 in
set_option maxHeartbeats 4000000 in
theorem Right1.asks {left : Nat} (hk : RightSaid left) (hl : left ≤ 1000) {n : Int} (hn : n = left + 1) {w1 : World} {bx : Nat} (hbx : w1.cell? ⟨bx, 0, none⟩ = some (.int .i64 n)) (x : S28) :
    Asks w1 47 #[.pointer (some ⟨bx, 0, none⟩)] (fun k => rightO left k) x := by
  intro b A c W hb hW hC hc
  have hcell := pw_cell_below hW hbx
  have hcell2 : ∀ o, (W.alloc o).cell? ⟨bx, 0, none⟩ = some (.int .i64 n) := fun o => pw_cell_below (below_alloc (Below.refl _ _) o) hcell
  have hcall := fun o => hk (n - 1) x A c b (W.alloc o) (by omega) (Kd.C_below hC (below_alloc (Below.refl _ _) o)) hc hb
  have n1 : 1 ≤ n := by omega
  have n2 : n ≤ 1001 := by omega
  clear hcell hbx hC hW hb hk hn
  have hu28 := Tryd.underlying28
  unfold qv
  show Calls Tryd.prog 47 #[.agg #[.int .i64 x.f0, .int .i64 x.f1.f0, .int .i64 x.f1.f1, .bool x.f1.f2.f0, .int .i64 x.f1.f2.f1, .string x.f1.f2.f2, .slice A x.f2.length c], .pointer (some ⟨bx, 0, none⟩)] W _
  go_enter Tryd.func47, Tryd.ntmps47
  go_wp2_with (go_at_call 24; refine (hcall _).mono ?_; rintro e w' ⟨rfl, hb'⟩)
  go_ret
  exact ⟨rfl, (below_alloc (Below.refl _ _) _).trans (hb'.mono (by simp))⟩

set_option maxRecDepth 100000 in
set_option maxHeartbeats 8000000 in
theorem right_step (left : Nat) (hl : left ≤ 1001) (ih : ∀ m, left = m + 1 → RightSaid m) : RightSaid left := by
  intro n x A c r w hn hC hc h
  have hu28 := Tryd.underlying28
  have hu25 := Tryd.underlying25
  have hu23 := Tryd.underlying23
  have hmm := @run_makeMap Tryd.prog
  have hwf : wf64 x.f0 = true := by
    cases hw : wf64 x.f0 with
    | true => rfl
    | false => cases left <;> simp [rightO, hw] at h
  obtain ⟨w1, w2, w3, r1, r2, r3, rl, hb3⟩ := map_steps ((w.alloc (Obj.cells #[.int .i64 x.f0, .int .i64 x.f1.f0, .int .i64 x.f1.f1, .bool x.f1.f2.f0, .int .i64 x.f1.f2.f1, .string x.f1.f2.f2, .slice A x.f2.length c] 28)).alloc (Obj.cells #[.int .i64 n] 3)) x.f0 hwf
  have hs : ((w.alloc (Obj.cells #[.int .i64 x.f0, .int .i64 x.f1.f0, .int .i64 x.f1.f1, .bool x.f1.f2.f0, .int .i64 x.f1.f2.f1, .string x.f1.f2.f2, .slice A x.f2.length c] 28)).alloc (Obj.cells #[.int .i64 n] 3)).heap.size = w.heap.size + 1 + 1 := by simp
  have B2 := below_alloc (below_alloc (Below.refl w.heap.size w) (Obj.cells #[.int .i64 x.f0, .int .i64 x.f1.f0, .int .i64 x.f1.f1, .bool x.f1.f2.f0, .int .i64 x.f1.f2.f1, .string x.f1.f2.f2, .slice A x.f2.length c] 28)) (Obj.cells #[.int .i64 n] 3)
  have B3 := B2.trans (hb3.mono (by simp; omega))
  have K1 := (hb3.block w.heap.size (by simp; omega)).trans (((below_alloc (Below.refl _ (w.alloc (Obj.cells #[.int .i64 x.f0, .int .i64 x.f1.f0, .int .i64 x.f1.f1, .bool x.f1.f2.f0, .int .i64 x.f1.f2.f1, .string x.f1.f2.f2, .slice A x.f2.length c] 28))) (Obj.cells #[.int .i64 n] 3)).block w.heap.size (by simp)).trans (blk_new w _))
  have K2 := (hb3.block (w.heap.size + 1) (by simp)).trans (blk_new_at _ _ _ (by simp))
  rw [hs] at r1 r2 r3 rl
  have q0 := (blk_cell K1 0).trans rfl
  have q1 := (blk_cell K1 1).trans rfl
  have q2 := (blk_cell K1 2).trans rfl
  have q3 := (blk_cell K1 3).trans rfl
  have q4 := (blk_cell K1 4).trans rfl
  have q5 := (blk_cell K1 5).trans rfl
  have q6 := (blk_cell K1 6).trans rfl
  have p0 := (blk_cell K2 0).trans rfl
  have HB3 := Aside0.mk B3
  have HC := Aside0.mk (Kd.C_below hC B3)
  have HN := Aside0.mk hn
  have H := Aside0.mk h
  have IH := Aside0.mk ih
  clear hs B2 B3 hb3 K1 K2 hC hn h ih hwf
  have hkk : ((x.f2.length : Int) != (kidsN x.f0 : Int)) = decide (x.f2.length ≠ kidsN x.f0) := by
    by_cases e : x.f2.length = kidsN x.f0
    · rw [e]; simp
    · rw [decide_eq_true e]; simp; omega
  by_cases e0 : n = 0
  · have g0 : (n == 0) = true := by simpa using e0
    have hr : r = false := by
      have h := H.out; have hn := HN.out
      have : left = 0 := by omega
      subst this
      unfold rightO at h
      split at h <;> simp_all
    subst hr
    clear e0 hkk
    go_enter Tryd.func24, Tryd.ntmps24
    go_wp2_with fail
    go_ret
    exact ⟨rfl, HB3.out⟩
  have g0 : (n == 0) = false := by simpa using e0
  obtain ⟨m, hm⟩ : ∃ m, left = m + 1 := ⟨left - 1, by have := HN.out; omega⟩
  have IHm := Aside0.mk (IH.out m hm)
  have H1 := H.out
  rw [hm] at H1
  unfold rightO at H1
  split at H1
  · exact absurd H1 (by simp)
  split at H1
  · rename_i _ e1
    have g1 : ((x.f2.length : Int) != (kidsN x.f0 : Int)) = true := by rw [hkk]; exact decide_eq_true e1
    have hr : r = false := by simpa using H1.symm
    subst hr
    clear hkk H1 e1
    go_enter Tryd.func24, Tryd.ntmps24
    go_wp2_with fail
    go_ret
    exact ⟨rfl, HB3.out⟩
  rename_i _ e1
  have g1 : ((x.f2.length : Int) != (kidsN x.f0 : Int)) = false := by rw [hkk]; exact decide_eq_false e1
  split at H1
  · rename_i e2
    have g2 : (x.f0 == 1) = true := by simpa using e2
    have hr : r = rightAskF x.f1 := by simpa using H1.symm
    subst hr
    clear hkk H1 e1 e2
    have hcall := rightAsk.calls x.f1 w3
    go_enter Tryd.func24, Tryd.ntmps24
    go_wp2_with (go_at_call 46; refine hcall.mono ?_; rintro e w' ⟨rfl, hb'⟩)
    go_ret
    exact ⟨rfl, HB3.out.trans (hb'.mono HB3.out.size)⟩
  rename_i e2
  have g2 : (x.f0 == 1) = false := by simpa using e2
  split at H1
  · rename_i e3
    have g3 : ((kidsN x.f0 : Int) == 0) = true := by simpa using e3
    have hr : r = false := by simpa using H1.symm
    subst hr
    clear hkk H1 e1 e2 e3
    go_enter Tryd.func24, Tryd.ntmps24
    go_wp2_with fail
    go_ret
    exact ⟨rfl, HB3.out⟩
  rename_i e3
  have g3 : ((kidsN x.f0 : Int) == 0) = false := by simpa using e3
  split at H1
  · rename_i e4
    have hr : r = false := by simpa using H1.symm
    subst hr
    unfold bareAsk at e4
    clear hkk H1 e1 e2 e3
    go_enter Tryd.func24, Tryd.ntmps24
    go_wp2_with fail
    go_ret
    exact ⟨rfl, HB3.out⟩
  rename_i e4
  have e4 : bareAsk x.f1 = true := by simpa using e4
  unfold bareAsk at e4
  have H2 := Aside0.mk H1
  have P0 := Aside0.mk (show w3.cell? ⟨w.heap.size + 1, 0, none⟩ = some (.int .i64 n) from p0)
  have hm1 : m ≤ 1000 := by omega
  have hnm : n = m + 1 := by have := HN.out; omega
  have eg47 : ∀ args W, (callFunc 47 args).run Tryd.prog W = .ok (.enter 47 args) W := Go.Proofs.enters_of Tryd.func47 (by kernel_rfl) rfl
  have hcall := every.calls 47 #[.pointer (some ⟨w.heap.size + 1, 0, none⟩)] (fun k => rightO m k) eg47 A c x.f2 w3 HC.out (fun y _ => Right1.asks IHm.out hm1 hnm P0.out y) r H2.out
  clear hkk H1 e1 e2 e3 hnm eg47
  go_enter Tryd.func24, Tryd.ntmps24
  go_wp2_with (go_at_call 35; refine hcall.mono ?_; rintro e w' ⟨rfl, hb'⟩)
  go_ret
  exact ⟨rfl, HB3.out.trans (hb'.mono HB3.out.size)⟩

theorem right.calls (left : Nat) (hl : left ≤ 1001) : RightSaid left := by
  induction left with
  | zero => exact right_step 0 hl (fun m e => absurd e (by omega))
  | succ m ih => exact right_step (m + 1) hl (fun m' e => by cases e; exact ih (by omega))
end Go.Proofs.YtglcajijmkianaaDoor.A
