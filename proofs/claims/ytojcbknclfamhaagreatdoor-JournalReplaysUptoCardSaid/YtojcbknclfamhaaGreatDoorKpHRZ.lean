/- The document's list: where a key stands. · The document's list: a deed is put. · The document's Replay: what segments come to. · JournalReplays: both Replays come to the same: the walk. · What segments come to by the program is what they come to by the document: plain. -/
import Derived.Test.YtojcbknclfamhaaGreatDoorKpAx0
import Derived.Test.YtojcbknclfamhaaGreatDoorKpHSkD
import Derived.Test.YtojcbknclfamhaaGreatDoorKpBxAhead
import Derived.Deep.RegionWith
import Derived.Deep.DeepCutAuto
import Derived.Deep.RegionLaw
import Derived.Deep.RegionHeld3
import Derived.Test.YtojcbknclfamhaaGreatDoorKpAx21
import Derived.Test.YtojcbknclfamhaaGreatDoorKpAx15
import Derived.Test.YtojcbknclfamhaaGreatDoorKpAx26
import Derived.Test.YtojcbknclfamhaaGreatDoorKpHZ
import Derived.Test.YtojcbknclfamhaaGreatDoorKpAx7
namespace Go.Proofs.YtojcbknclfamhaaGreatDoor.A
open Go.RowKit Go.Proofs.YtojcbknclfamhaaGreatDoorW.PrintWords Go.Proofs.YtojcbknclfamhaaGreatDoorW.PrintLast Go.Proofs.YtojcbknclfamhaaGreatDoorW.PrintMore
set_option linter.unusedVariables false
set_option linter.unusedSimpArgs false
def there (ds : List S26) (d : S26) : Bool := (ds[rank ds d]?).any (fun x => decide (cmpV (keyOf x) (keyOf d) = 0))
def AhOk (K : Nat) (ds : List S26) (k : S46) : Prop := ∀ x ∈ ds, tithebarnref02_Ahead.f K (keyOf x).f0 (keyOf x).f1 (keyOf x).f2 k.f0 k.f1 k.f2 = some (decide (cmpV (keyOf x) k < 0)) ∧ tithebarnref02_Ahead.f K k.f0 k.f1 k.f2 (keyOf x).f0 (keyOf x).f1 (keyOf x).f2 = some (decide (cmpV k (keyOf x) < 0))
theorem rank_lt : ∀ (l : List S26) (d : S26) (i : Nat) (hi : i < l.length), i < rank l d → cmpV (keyOf l[i]) (keyOf d) < 0
  | x :: xs, d, 0, hi, h => by
    unfold rank at h
    by_cases hx : cmpV (keyOf x) (keyOf d) < 0
    · exact hx
    · rw [if_neg hx] at h; omega
  | x :: xs, d, i + 1, hi, h => by
    unfold rank at h
    by_cases hx : cmpV (keyOf x) (keyOf d) < 0
    · rw [if_pos hx] at h
      have := rank_lt xs d i (by simpa using hi) (by omega)
      simpa using this
    · rw [if_neg hx] at h; omega
theorem rank_at : ∀ (l : List S26) (d : S26) (hi : rank l d < l.length), ¬ cmpV (keyOf l[rank l d]) (keyOf d) < 0
  | x :: xs, d, hi => by
    by_cases hx : cmpV (keyOf x) (keyOf d) < 0
    · have e : rank (x :: xs) d = rank xs d + 1 := by conv => lhs; unfold rank; rw [if_pos hx]
      have := rank_at xs d (by rw [e] at hi; simpa using hi)
      simpa [e] using this
    · have e : rank (x :: xs) d = 0 := by conv => lhs; unfold rank; rw [if_neg hx]
      simpa [e] using hx
theorem there_eq (ds : List S26) (d : S26) (hi : rank ds d < ds.length) : there ds d = !decide (cmpV (keyOf d) (keyOf ds[rank ds d]) < 0) := by
  unfold there
  rw [List.getElem?_eq_getElem hi]
  simp only [Option.any_some]
  have h1 := rank_at ds d hi
  rcases trichotomy (keyOf ds[rank ds d]) (keyOf d) with h | h | h
  · exact absurd ((cmpV_neg _ _).2 h) h1
  · rw [decide_eq_true ((cmpV_zero _ _).2 h), decide_eq_false]
    · rfl
    · rw [cmpV_neg]; exact fun h2 => Lt.irrefl _ (h.lt_right.1 h2)
  · rw [decide_eq_true ((cmpV_neg _ _).2 h), decide_eq_false]
    · rfl
    · rw [cmpV_zero]; exact fun h2 => Lt.irrefl _ (h2.lt_right.1 h)
theorem cell_on {W W' : World} (h : Below W.heap.size W W') {p : Addr} {v : Value} (hc : W.cell? p = some v) : W'.cell? p = some v := (h.cell (World.block_lt_of_cell? W _ hc)).trans hc
theorem deed_at {W : World} {A : Option Addr} {xs : List S26} (h : Kd.C k26 W A xs.length xs) (i : Nat) (hi : i < xs.length) (hlen : 0 < xs[i].f1.length) : ∃ ad c3 ad3, A = some ad ∧ W.cell? (ad.add (i * 2)) = some (.bool xs[i].f0) ∧ W.cell? ⟨(ad.add (i * 2)).block, (ad.add (i * 2)).off + 1, none⟩ = some (.slice (some ad3) xs[i].f1.length c3) ∧ xs[i].f1.length ≤ c3 ∧ Kd.C k46 W (some ad3) xs[i].f1.length xs[i].f1 ∧ W.cell? ad3 = some (.bool (keyOf xs[i]).f0) ∧ W.cell? ⟨ad3.block, ad3.off + 1, none⟩ = some (.int .i64 (keyOf xs[i]).f1) ∧ W.cell? ⟨ad3.block, ad3.off + 2, none⟩ = some (.string (keyOf xs[i]).f2) := by
  obtain ⟨ad, A3, c3, rfl, hx0, hx1, hc3, hC3⟩ := at_T26 h (i : Int) (by omega) (by omega)
  have hrd : rd_T26 xs (i : Int) = xs[i] := by simp [rd_T26, List.getD, hi]
  rw [hrd] at hx0 hx1 hc3 hC3
  rw [Int.toNat_natCast] at hx0 hx1
  obtain ⟨ad3, rfl, hy0, hy1, hy2⟩ := at_T46 hC3 0 (by omega) (by omega)
  have e00 : Int.toNat 0 * 3 = 0 := rfl
  rw [show rd_T46 xs[i].f1 0 = keyOf xs[i] from rfl] at hy0 hy1 hy2
  rw [e00, Addr.add_zero'] at hy0 hy1 hy2
  exact ⟨ad, c3, ad3, rfl, hx0, hx1, hc3, hC3, hy0, hy1, hy2⟩
set_option maxHeartbeats 16000000 in
set_option maxRecDepth 100000 in
theorem place.calls (K : Nat) (w : World) (lr : Nat) (A : Option Addr) (c : Nat) (ds : List S26) (d : S26) (hlr : w.heap[lr]? = some (.cells #[.slice A ds.length c] 65 (0, 0))) (hC : Kd.C k26 w A ds.length ds) (hds : ∀ x ∈ ds, 0 < x.f1.length) (hln : ds.length ≤ maxLen) (hA : AhOk K ds (keyOf d)) :
    Calls Tryz.prog 66 #[.pointer (some ⟨lr, 0, none⟩), .agg #[.bool (keyOf d).f0, .int .i64 (keyOf d).f1, .string (keyOf d).f2]] w fun e w' => e = .returned (.tuple #[.int .i64 (rank ds d : Int), .bool (there ds d)]) ∧ Below w.heap.size w w' := by
  have hu1 := Tryz.underlying65
  have hu2 := Tryz.underlying26
  have hu3 := Tryz.underlying46
  have hu4 := Tryz.underlying28
  have hu5 := Tryz.underlying24
  have b1 := below_alloc (Below.refl _ w) (.cells #[.bool (keyOf d).f0, .int .i64 (keyOf d).f1, .string (keyOf d).f2] 46)
  have k1 := blk_new w (.cells #[.bool (keyOf d).f0, .int .i64 (keyOf d).f1, .string (keyOf d).f2] 46)
  have HB1 := Aside0.mk b1; have HK1 := Aside0.mk k1; have HLR := Aside0.mk hlr; have HC := Aside0.mk hC; have HDS := Aside0.mk hds; have HLN := Aside0.mk hln; have HA := Aside0.mk hA
  clear b1 k1 hlr hC hds hln hA
  go_enter Tryz.func66, Tryz.ntmps66
  go_upto_block 0 with fail
  generalize World.alloc w _ = w1 at *
  go_cut [6] (fun s6 wc => s6 = .int .i64 (rank ds d : Int) ∧ Aside0 (Below w1.heap.size w1 wc))
  case first =>
    go_wp2_with fail
    go_loopg [6] (ds.length + 1) (fun gg s6 wo => ∃ i : Nat, i ≤ rank ds d ∧ rank ds d - i ≤ gg ∧ s6 = .int .i64 (i : Int) ∧ Aside0 (Below w1.heap.size w1 wo))
    case atStart => exact ⟨0, by omega, by have := rank_le ds d; omega, rfl, ⟨Below.refl _ _⟩⟩
    case round =>
      rename World => wo
      obtain ⟨i, hi, hgg, rfl, HB⟩ := hrel
      have hrl := rank_le ds d
      have hall := HB1.out.trans (HB.out.mono HB1.out.size)
      have hlv := (hall.block _ (Array.getElem?_eq_some_iff.1 HLR.out).1).trans HLR.out
      have l0 : wo.cell? ⟨lr, 0, none⟩ = some (.slice A ds.length c) := blk_cell hlv 0
      by_cases hlt : i < ds.length
      · obtain ⟨ad, c3, ad3, rfl, hx0, hx1, hc3, hC3, hk0, hk1, hk2⟩ := deed_at HC.out i hlt (HDS.out _ (List.getElem_mem hlt))
        have y1 := cell_on hall hx1
        have y2 := cell_on hall hk0
        have y3 := cell_on hall hk1
        have y4 := cell_on hall hk2
        have hkb := (HB.out.block _ (Array.getElem?_eq_some_iff.1 HK1.out).1).trans HK1.out
        have b0 := (blk_cell hkb 0).trans (show #[Value.bool (keyOf d).f0, .int .i64 (keyOf d).f1, .string (keyOf d).f2][0]? = some (.bool (keyOf d).f0) from rfl)
        have b1 := (blk_cell hkb 1).trans (show #[Value.bool (keyOf d).f0, .int .i64 (keyOf d).f1, .string (keyOf d).f2][1]? = some (.int .i64 (keyOf d).f1) from rfl)
        have b2 := (blk_cell hkb 2).trans (show #[Value.bool (keyOf d).f0, .int .i64 (keyOf d).f1, .string (keyOf d).f2][2]? = some (.string (keyOf d).f2) from rfl)
        have ha := (HA.out _ (List.getElem_mem hlt)).1
        have hl3 := HDS.out _ (List.getElem_mem hlt)
        have hlr : cmpV (keyOf ds[i]) (keyOf d) < 0 ↔ i < rank ds d := by
          constructor
          · intro h
            rcases Nat.lt_or_ge i (rank ds d) with h1 | h1
            · exact h1
            · have e : i = rank ds d := by omega
              subst e
              exact absurd h (rank_at ds d hlt)
          · exact fun h => rank_lt ds d i hlt h
        have HAH := Aside0.mk ha; have HLR := Aside0.mk hlr; have HI := Aside0.mk (And.intro hi (And.intro hlt hgg))
        have e1 : decide ((i : Int) < (ds.length : Int)) = true := decide_eq_true (by omega)
        have e2 : decide (i < ds.length) = true := decide_eq_true hlt
        have e3 : (0 ≤ (i : Int)) = True := eq_true (by omega)
        have e4 : ((i : Int) < (ds.length : Int)) = True := eq_true (by omega)
        have e4b : (i < ds.length) = True := eq_true hlt
        have e5 : IntKind.i64.wrap ((i : Int) + 1) = ((i + 1 : Nat) : Int) := by
          have := HLN.out
          rw [IntWalk.i64_in _ (by simp only [maxLen] at this; omega)]; rfl
        have e6 : (0 < ((ds[i]).f1.length : Int)) = True := eq_true (by omega)
        have e6b : (0 < (ds[i]).f1.length) = True := eq_true hl3
        generalize ds[i] = x at *
        clear hx0 hx1 hc3 hC3 hk0 hk1 hk2 hkb ha hl3 hlr hi hgg hlt hrl hall hlv
        by_cases hcm : cmpV (keyOf x) (keyOf d) < 0
        · have hd : decide (cmpV (keyOf x) (keyOf d) < 0) = true := decide_eq_true hcm
          have HG := Aside0.mk (HLR.out.1 hcm)
          have HAT : Aside0 (tithebarnref02_Ahead.f K (keyOf x).f0 (keyOf x).f1 (keyOf x).f2 (keyOf d).f0 (keyOf d).f1 (keyOf d).f2 = some true) := ⟨HAH.out.trans (by rw [hd])⟩
          clear hd hcm HLR HAH
          go_wp2_with fail
          go_region_with (first | (go_at_call 95; refine (tithebarnref02_Ahead.calls K (keyOf x).f0 (keyOf x).f1 (keyOf x).f2 (keyOf d).f0 (keyOf d).f1 (keyOf d).f2 true _ HAT.out).mono ?_; rintro e wv ⟨rfl, hb⟩; (have HBv := Aside0.mk ((pw_below_drewN HB.out _).trans (hb.mono HB.out.size))); clear hb))
          all_goals (
            go_wp2_with fail
            go_roundg (rank ds d - (i + 1))
            case measure => have := HG.out; have := HI.out; omega
            case rel => exact ⟨i + 1, HG.out, Nat.le_refl _, rfl, HBv⟩)
        · have hd : decide (cmpV (keyOf x) (keyOf d) < 0) = false := decide_eq_false hcm
          have HG : Aside0 (rank ds d = i) := ⟨by have h1 : ¬ i < rank ds d := fun h => hcm (HLR.out.2 h); have := HI.out.1; omega⟩
          have HAT : Aside0 (tithebarnref02_Ahead.f K (keyOf x).f0 (keyOf x).f1 (keyOf x).f2 (keyOf d).f0 (keyOf d).f1 (keyOf d).f2 = some false) := ⟨HAH.out.trans (by rw [hd])⟩
          clear hd hcm HLR HAH
          go_wp2_with fail
          go_region_with (first | (go_at_call 95; refine (tithebarnref02_Ahead.calls K (keyOf x).f0 (keyOf x).f1 (keyOf x).f2 (keyOf d).f0 (keyOf d).f1 (keyOf d).f2 false _ HAT.out).mono ?_; rintro e wv ⟨rfl, hb⟩; (have HBv := Aside0.mk ((pw_below_drewN HB.out _).trans (hb.mono HB.out.size))); clear hb))
          all_goals (
            go_wp2_with fail
            go_meet
            case rel => exact ⟨by rw [HG.out], HBv⟩)
      · have hri : rank ds d = i := by omega
        have e1 : decide ((i : Int) < (ds.length : Int)) = false := decide_eq_false (by omega)
        have e2 : decide (i < ds.length) = false := decide_eq_false hlt
        have HRI := Aside0.mk hri
        clear hi hgg hrl hall hlv hri
        go_wp2_with fail
        go_quiet (fail)
        go_wp2_with fail
        go_meet
        case rel => exact ⟨by rw [HRI.out], ⟨pw_below_drewN HB.out _⟩⟩
  case rest =>
    obtain ⟨rfl, HB⟩ := hcut
    have hrl := rank_le ds d
    have hall := HB1.out.trans (HB.out.mono HB1.out.size)
    have hlv := (hall.block _ (Array.getElem?_eq_some_iff.1 HLR.out).1).trans HLR.out
    have l0 : wc.cell? ⟨lr, 0, none⟩ = some (.slice A ds.length c) := blk_cell hlv 0
    have HALL := Aside0.mk hall
    have HTH := Aside0.mk (there_eq ds d)
    have HRL := Aside0.mk hrl
    have hre : ∃ r, r = rank ds d := ⟨_, rfl⟩
    obtain ⟨r, hr⟩ := hre
    rw [← hr] at HTH HRL ⊢
    have HR := Aside0.mk hr
    clear hr
    by_cases hlt : r < ds.length
    · obtain ⟨ad, c3, ad3, rfl, hx0, hx1, hc3, hC3, hk0, hk1, hk2⟩ := deed_at HC.out r hlt (HDS.out _ (List.getElem_mem hlt))
      have y1 := cell_on hall hx1
      have y2 := cell_on hall hk0
      have y3 := cell_on hall hk1
      have y4 := cell_on hall hk2
      have hkb := (HB.out.block _ (Array.getElem?_eq_some_iff.1 HK1.out).1).trans HK1.out
      have b0 := (blk_cell hkb 0).trans (show #[Value.bool (keyOf d).f0, .int .i64 (keyOf d).f1, .string (keyOf d).f2][0]? = some (.bool (keyOf d).f0) from rfl)
      have b1 := (blk_cell hkb 1).trans (show #[Value.bool (keyOf d).f0, .int .i64 (keyOf d).f1, .string (keyOf d).f2][1]? = some (.int .i64 (keyOf d).f1) from rfl)
      have b2 := (blk_cell hkb 2).trans (show #[Value.bool (keyOf d).f0, .int .i64 (keyOf d).f1, .string (keyOf d).f2][2]? = some (.string (keyOf d).f2) from rfl)
      have ha := (HA.out _ (List.getElem_mem hlt)).2
      have hth := HTH.out hlt
      have hl3 := HDS.out _ (List.getElem_mem hlt)
      have e1 : decide ((r : Int) < (ds.length : Int)) = true := decide_eq_true (by omega)
      have e2 : decide (r < ds.length) = true := decide_eq_true hlt
      have e3 : (0 ≤ (r : Int)) = True := eq_true (by omega)
      have e4 : ((r : Int) < (ds.length : Int)) = True := eq_true (by omega)
      have e4b : (r < ds.length) = True := eq_true hlt
      have e6 : (0 < ((ds[r]).f1.length : Int)) = True := eq_true (by omega)
      have e6b : (0 < (ds[r]).f1.length) = True := eq_true hl3
      generalize ds[r] = x at *
      generalize decide (cmpV (keyOf d) (keyOf x) < 0) = bb at *
      have HAT := Aside0.mk ha; have HTT := Aside0.mk hth
      clear hx0 hx1 hc3 hC3 hk0 hk1 hk2 hkb ha hth hl3 hlt hrl hall hlv HTH
      rcases bb with _ | _
      all_goals (
        go_wp2_with fail
        go_region_with (first | (go_at_call 95; refine (tithebarnref02_Ahead.calls K (keyOf d).f0 (keyOf d).f1 (keyOf d).f2 (keyOf x).f0 (keyOf x).f1 (keyOf x).f2 _ _ HAT.out).mono ?_; rintro e wv ⟨rfl, hb⟩; (have HBv := Aside0.mk ((pw_below_drewN HB.out _).trans (hb.mono HB.out.size))); clear hb))
        all_goals (
          go_wp2_with fail
          go_ret2
          exact ⟨by rw [HTT.out, ← HR.out]; rfl, HB1.out.trans (HBv.out.mono HB1.out.size)⟩))
    · have hrn : r = ds.length := by have := HRL.out; omega
      have htn : there ds d = false := by unfold there; rw [← HR.out, List.getElem?_eq_none (by omega)]; rfl
      have e1 : decide ((r : Int) < (ds.length : Int)) = false := decide_eq_false (by omega)
      have e2 : decide (r < ds.length) = false := decide_eq_false hlt
      have HTN := Aside0.mk htn
      clear hrn htn hlt hrl hall hlv HTH
      go_wp2_with fail
      go_quiet (fail)
      go_wp2_with fail
      go_ret2
      exact ⟨by rw [HTN.out, ← HR.out]; rfl, pw_below_drewN HALL.out _⟩
end Go.Proofs.YtojcbknclfamhaaGreatDoor.A
namespace Go.Proofs.YtojcbknclfamhaaGreatDoor.A
open Go.RowKit Go.Proofs.YtojcbknclfamhaaGreatDoorW.PrintWords Go.Proofs.YtojcbknclfamhaaGreatDoorW.PrintLast Go.Proofs.YtojcbknclfamhaaGreatDoorW.PrintMore
set_option linter.unusedVariables false
set_option linter.unusedSimpArgs false
abbrev Fl := Bool × (Option Addr × Nat × Nat)
def slV (t : Option Addr × Nat × Nat) : Value := .slice t.1 t.2.1 t.2.2
def kS : Kd Fl := Kd.pair Kd.bool (Kd.scalar slV (fun _ => rfl))
theorem kS_open {w : World} {x : Fl} {cs : List Value} (h : kS.K w x cs) : cs = [.bool x.1, slV x.2] := by
  obtain ⟨c0, c1, rfl, h0, h1⟩ := h
  rw [show c0 = [.bool x.1] from h0, show c1 = [slV x.2] from h1]
  rfl
theorem kS_mk (w : World) (x : Fl) : kS.K w x [.bool x.1, slV x.2] := ⟨[.bool x.1], [slV x.2], rfl, rfl, rfl⟩
theorem kS_mkM (w : World) (base : Nat) (ok : Nat → Prop) (x : Fl) : kS.M w base ok x [.bool x.1, slV x.2] := ⟨[.bool x.1], [slV x.2], rfl, rfl, rfl⟩
theorem kS_KM {W W' : World} {base : Nat} {ok : Nat → Prop} (x : Fl) (cs : List Value) (h : kS.K W x cs) : kS.M W' base ok x cs := by
  rw [kS_open h]; exact kS_mkM W' base ok x
def EsOk (W : World) : List Fl → List S26 → Prop
  | [], [] => True
  | e :: es, d :: ds => (e.1 = d.f0 ∧ e.2.2.1 = d.f1.length ∧ Kd.R k46 46 W 0 (fun _ => True) (slV e.2) d.f1) ∧ EsOk W es ds
  | _, _ => False
theorem EsOk.len {W : World} : ∀ {es : List Fl} {ds : List S26}, EsOk W es ds → es.length = ds.length
  | [], [], _ => rfl
  | e :: es, d :: ds, h => by rw [List.length_cons, List.length_cons, EsOk.len h.2]
  | [], _ :: _, h => h.elim
  | _ :: _, [], h => h.elim
theorem EsOk.imp {W W1 : World} (hR : ∀ V r, Kd.R k46 46 W 0 (fun _ => True) V r → Kd.R k46 46 W1 0 (fun _ => True) V r) : ∀ {es : List Fl} {ds : List S26}, EsOk W es ds → EsOk W1 es ds
  | [], [], _ => trivial
  | e :: es, d :: ds, h => ⟨⟨h.1.1, h.1.2.1, hR _ _ h.1.2.2⟩, EsOk.imp hR h.2⟩
  | [], _ :: _, h => h.elim
  | _ :: _, [], h => h.elim
theorem EsOk.take {W : World} : ∀ {es : List Fl} {ds : List S26} (k : Nat), EsOk W es ds → EsOk W (es.take k) (ds.take k)
  | _, _, 0, _ => by rw [List.take_zero, List.take_zero]; trivial
  | [], [], k + 1, _ => trivial
  | e :: es, d :: ds, k + 1, h => ⟨h.1, EsOk.take k h.2⟩
  | [], _ :: _, _ + 1, h => h.elim
  | _ :: _, [], _ + 1, h => h.elim
theorem EsOk.drop {W : World} : ∀ {es : List Fl} {ds : List S26} (k : Nat), EsOk W es ds → EsOk W (es.drop k) (ds.drop k)
  | _, _, 0, h => h
  | [], [], k + 1, _ => trivial
  | e :: es, d :: ds, k + 1, h => EsOk.drop k h.2
  | [], _ :: _, _ + 1, h => h.elim
  | _ :: _, [], _ + 1, h => h.elim
theorem EsOk.append {W : World} : ∀ {es es2 : List Fl} {ds ds2 : List S26}, EsOk W es ds → EsOk W es2 ds2 → EsOk W (es ++ es2) (ds ++ ds2)
  | [], _, [], _, _, h => h
  | e :: es, _, d :: ds, _, h, h2 => ⟨h.1, EsOk.append h.2 h2⟩
  | [], _, _ :: _, _, h, _ => h.elim
  | _ :: _, _, [], _, h, _ => h.elim
theorem EsOk.cells {W : World} : ∀ {es : List Fl} {ds : List S26}, EsOk W es ds → ∀ (j : Nat) (e : Fl), es[j]? = some e → ∃ d, ds[j]? = some d ∧ k26.K W d [.bool e.1, slV e.2]
  | e :: es, d :: ds, h, 0, e', he => by
    obtain rfl : e = e' := by simpa using he
    refine ⟨d, rfl, ?_⟩
    obtain ⟨⟨h1, h2, h3⟩, -⟩ := h
    obtain ⟨b, A, n, c⟩ := e
    simp only at h1 h2
    subst h1 h2
    obtain ⟨A', c', hs, hl, hC⟩ := Kd.R_reads h3
    simp only [slV, Value.slice.injEq] at hs
    obtain ⟨rfl, -, rfl⟩ := hs
    exact k26_mk W d hl hC
  | e :: es, d :: ds, h, j + 1, e', he => by
    obtain ⟨d', h1, h2⟩ := EsOk.cells h.2 j e' (by simpa using he)
    exact ⟨d', by simpa using h1, h2⟩
  | [], [], _, j, e', he => by simp at he
  | [], _ :: _, h, _, _, _ => h.elim
  | _ :: _, [], h, _, _, _ => h.elim
def RL (W : World) (lr : Nat) (ds : List S26) : Prop := ∃ (V : Value) (es : List Fl), W.heap[lr]? = some (.cells #[V] 65 (0, 0)) ∧ Kd.R kS 26 W 0 (fun _ => True) V es ∧ EsOk W es ds
theorem reads_deeds {W : World} {A : Option Addr} {es : List Fl} {ds : List S26} (h : Kd.C kS W A es.length es) (he : EsOk W es ds) : Kd.C k26 W A ds.length ds := by
  have hl := he.len
  obtain ⟨h1, h2, h3⟩ := h
  refine ⟨rfl, by omega, fun hp => ?_⟩
  obtain ⟨ad, e, hx⟩ := h3 (by omega)
  refine ⟨ad, e, fun j p hj => ?_⟩
  have hj2 : j < es.length := by
    have := (List.getElem?_eq_some_iff.1 hj).1
    omega
  obtain ⟨cs, a1, a2, a3⟩ := hx j es[j] (List.getElem?_eq_getElem hj2)
  rw [kS_open a2] at a3
  obtain ⟨d, b1, b2⟩ := he.cells j es[j] (List.getElem?_eq_getElem hj2)
  rw [hj] at b1
  obtain rfl := Option.some.inj b1
  exact ⟨_, rfl, b2, a3⟩
theorem RL.read {W : World} {lr : Nat} {ds : List S26} (h : RL W lr ds) : ∃ A c, W.heap[lr]? = some (.cells #[.slice A ds.length c] 65 (0, 0)) ∧ ds.length ≤ c ∧ Kd.C k26 W A ds.length ds := by
  obtain ⟨V, es, h1, h2, h3⟩ := h
  obtain ⟨A, c, rfl, hl, hC⟩ := Kd.R_reads h2
  have := h3.len
  rw [this] at h1 hl
  exact ⟨A, c, h1, hl, reads_deeds hC h3⟩
def KeepL (lr : Nat) (w w' : World) : Prop := w'.os = w.os ∧ w'.tape = w.tape ∧ w'.output = w.output ∧ w.heap.size ≤ w'.heap.size ∧ ∀ k, k < w.heap.size → k ≠ lr → w'.heap[k]? = w.heap[k]?
theorem info26d : (Tryz.prog.info? 26).map (fun i => (i.zero, i.size, i.bytes)) = some (some (.agg #[.bool false, .slice none 0 0]), 2, 32) := by kernel_rfl
theorem szDeed (W : World) : (sizeOf 26).run Tryz.prog W = .ok 2 W := by kernel_rfl
theorem elDeeds : Tryz.prog.elem 28 = 26 := by kernel_rfl
theorem add02 (A : Option Addr) : A.map (·.add (0 * 2)) = A := by
  cases A with
  | none => rfl
  | some a => simp [Addr.add]
theorem cutH (A : Option Addr) (len cap n : Nat) (hn : n ≤ cap) (W : World) : (Instr.slice 28 (.slice A len cap) none (some (.int .i64 (n : Int))) none).run Tryz.prog W = .ok (.slice A n cap) W := by
  have hu : Tryz.prog.underlying 28 = some (.slice (Tryz.prog.elem 28)) := by rw [elDeeds]; exact Tryz.underlying28
  have h := run_slice_h (P := Tryz.prog) W 28 A len cap hu .i64 (n : Int) (by omega) (by omega)
  rw [h, elDeeds, szDeed]
  simp only [Result.andThen, sliced, Int.toNat_natCast, add02, Nat.sub_zero, ite_self]
theorem cutL (A : Option Addr) (len cap n : Nat) (hn : n ≤ len) (hl : len ≤ cap) (W : World) : (Instr.slice 28 (.slice A len cap) (some (.int .i64 (n : Int))) none none).run Tryz.prog W = .ok (.slice (if cap = n then A else A.map (·.add (n * 2))) (len - n) (cap - n)) W := by
  have hu : Tryz.prog.underlying 28 = some (.slice (Tryz.prog.elem 28)) := by rw [elDeeds]; exact Tryz.underlying28
  have h := run_slice_l (P := Tryz.prog) W 28 A len cap hu .i64 (n : Int) (by omega) (by omega)
  rw [h, elDeeds, szDeed]
  simp only [Result.andThen, sliced, Int.toNat_natCast]
theorem C_dropN {α : Type} {d : Kd α} {w : World} {A : Option Addr} {n c : Nat} {l : List α} (h : Kd.C d w A n l) (hc : n ≤ c) (k : Nat) (hk : k ≤ n) : Kd.C d w (if c = k then A else A.map (·.add (k * d.sz))) (n - k) (l.drop k) := by
  obtain ⟨h1, h2, h3⟩ := h
  refine ⟨by rw [List.length_drop, h1], by omega, fun hp => ?_⟩
  obtain ⟨ad, e, hx⟩ := h3 (by omega)
  rw [if_neg (by omega), e]
  refine ⟨_, rfl, fun j p hj => ?_⟩
  rw [List.getElem?_drop] at hj
  obtain ⟨cs, a1, a2, a3⟩ := hx (k + j) p hj
  refine ⟨cs, a1, a2, fun i u hu => ?_⟩
  have := a3 i u hu
  have e2 : (ad.add (k * d.sz)).add (j * d.sz + i) = ad.add ((k + j) * d.sz + i) := by
    rw [Go.Addr.add_add]
    congr 1
    rw [Nat.add_mul]
    omega
  rw [e2]
  exact this
theorem C_takeN {α : Type} {d : Kd α} {w : World} {A : Option Addr} {n : Nat} {l : List α} (h : Kd.C d w A n l) (k : Nat) (hk : k ≤ n) : Kd.C d w A k (l.take k) := by
  obtain ⟨h1, h2, h3⟩ := h
  refine ⟨by rw [List.length_take]; omega, by omega, fun hp => ?_⟩
  obtain ⟨ad, e, hc⟩ := h3 (by omega)
  refine ⟨ad, e, fun j p hj => hc j p ?_⟩
  rw [List.getElem?_take] at hj
  split at hj
  · exact hj
  · simp at hj
theorem oneS {W : World} {b : Nat} {x : Fl} (hb : W.heap[b]? = some (.cells #[.bool x.1, slV x.2] 26 (0, 0))) : Kd.C kS W (some ⟨b, 0, none⟩) 1 [x] := by
  refine ⟨rfl, by simp, fun _ => ⟨_, rfl, fun j p hj => ?_⟩⟩
  cases j with
  | zero =>
    have hp : x = p := by simpa using hj
    subst hp
    refine ⟨_, rfl, kS_mk W x, fun i u hu => ?_⟩
    have := cells_at2 hb i u (by simpa using hu)
    rw [add_plain, Nat.zero_mul, Nat.zero_add]
    exact this
  | succ j => simp at hj
theorem RL.below {W W1 : World} {lr : Nat} {ds : List S26} (h : RL W lr ds) (hb : Below W.heap.size W W1) : RL W1 lr ds := by
  obtain ⟨V, es, h1, h2, h3⟩ := h
  exact ⟨V, es, (hb.block _ (Array.getElem?_eq_some_iff.1 h1).1).trans h1, Kd.R_below h2 hb, h3.imp (fun _ _ hR => Kd.R_below hR hb)⟩
theorem there_lt {ds : List S26} {d : S26} (h : there ds d = true) : rank ds d < ds.length := by
  unfold there at h
  rcases Nat.lt_or_ge (rank ds d) ds.length with h1 | h1
  · exact h1
  · rw [List.getElem?_eq_none h1] at h; cases h
theorem putL_there (ds : List S26) (d : S26) : putL ds d = ds.take (rank ds d) ++ d :: ds.drop (if there ds d = true then rank ds d + 1 else rank ds d) := by
  rw [putL_eq]
  unfold there
  split <;> rfl
theorem rput_end {w w2 w5 : World} {lr r k2 n5 c5 c2 cap : Nat} {A5 A2 : Option Addr} {es : List Fl} {ds : List S26} {g : Bool} {ad : Addr} {row : List S46} (hw : lr < w.heap.size) (hb2 : Below w.heap.size w w2) (hb3 : Below w2.heap.size w2 w5) (hlr : w2.heap[lr]? = some (.cells #[.slice A2 es.length c2] 65 (0, 0))) (he : EsOk w2 es ds) (hR : Kd.R k46 46 w2 0 (fun _ => True) (.slice (some ad) row.length cap) row) (h5 : Kd.R kS 26 w5 w2.heap.size (fun _ => True) (.slice A5 n5 c5) ([] ++ es.take r ++ [((g, (some ad, row.length, cap)) : Fl)] ++ es.drop k2)) (hr : r = rank ds ⟨g, row⟩) (hk : k2 = if there ds ⟨g, row⟩ = true then rank ds ⟨g, row⟩ + 1 else rank ds ⟨g, row⟩) :
    RL (w5.setCell ⟨lr, 0, none⟩ (.slice A5 n5 c5)) lr (putL ds ⟨g, row⟩) ∧ KeepL lr w (w5.setCell ⟨lr, 0, none⟩ (.slice A5 n5 c5)) := by
  have h52 := (hb3.block _ (Array.getElem?_eq_some_iff.1 hlr).1).trans hlr
  have hrow : ∀ V r, Kd.R k46 46 w2 0 (fun _ => True) V r → Kd.R k46 46 (w5.setCell ⟨lr, 0, none⟩ (.slice A5 n5 c5)) 0 (fun _ => True) V r := fun V r h => Kd.R_set (Kd.R_below h hb3) h52 (by decide) 0 _
  refine ⟨⟨_, _, blk_set h52 0 _, Kd.R_set (Kd.R_lower h5 (Nat.zero_le _)) h52 (by decide) 0 _, ?_⟩, hb3.os.trans hb2.os, hb3.tape.trans hb2.tape, hb3.output.trans hb2.output, ?_, ?_⟩
  · rw [putL_there, ← hk, ← hr]
    have h1 := (he.take r).imp hrow
    have h2 := (he.drop k2).imp hrow
    have h3 : EsOk (w5.setCell ⟨lr, 0, none⟩ (.slice A5 n5 c5)) [((g, (some ad, row.length, cap)) : Fl)] [⟨g, row⟩] := ⟨⟨rfl, rfl, hrow _ _ hR⟩, trivial⟩
    have h4 := (h1.append h3).append h2
    simpa using h4
  · have := hb2.size; have := hb3.size
    simp only [World.setCell, Array.size_modify]; omega
  · intro k hk1 hk2
    rw [Below.heap_setCell _ _ _ k hk2, hb3.block k (Nat.lt_of_lt_of_le hk1 hb2.size), hb2.block k hk1]
set_option maxHeartbeats 16000000 in
set_option maxRecDepth 100000 in
theorem rput.calls (K : Nat) (w : World) (lr : Nat) (ds : List S26) (g : Bool) (A : Option Addr) (cap : Nat) (row : List S46) (hL : RL w lr ds) (hds : ∀ x ∈ ds, 0 < x.f1.length) (hln : (ds.length + 1) * 32 ≤ 140737488355328) (hR : Kd.R k46 46 w 0 (fun _ => True) (.slice A row.length cap) row) (hlen : 0 < row.length) (hA : AhOk K ds (keyOf ⟨g, row⟩)) :
    Calls Tryz.prog 31 #[.pointer (some ⟨lr, 0, none⟩), .agg #[.bool g, .slice A row.length cap]] w fun e w' => e = .returned (.bool true) ∧ RL w' lr (putL ds ⟨g, row⟩) ∧ KeepL lr w w' := by
  have hu1 := Tryz.underlying65
  have hu2 := Tryz.underlying26
  have hu3 := Tryz.underlying46
  have hu4 := Tryz.underlying28
  have hu5 := Tryz.underlying24
  have b1 := below_alloc (Below.refl _ w) (.cells #[.bool g, .slice A row.length cap] 26)
  have k1 := blk_new w (.cells #[.bool g, .slice A row.length cap] 26)
  obtain ⟨-, -, hC⟩ := Kd.R_reads' hR
  obtain ⟨ad, rfl, hx0, hx1, hx2⟩ := at_T46 hC 0 (by omega) (by omega)
  have e00 : Int.toNat 0 * 3 = 0 := rfl
  rw [show rd_T46 row 0 = keyOf (⟨g, row⟩ : S26) from rfl] at hx0 hx1 hx2
  rw [e00, Addr.add_zero'] at hx0 hx1 hx2
  have y0 := cell_on b1 hx0
  have y1 := cell_on b1 hx1
  have y2 := cell_on b1 hx2
  have p0 := (blk_cell k1 0).trans (show #[Value.bool g, .slice (some ad) row.length cap][0]? = some (.bool g) from rfl)
  have p1 := (blk_cell k1 1).trans (show #[Value.bool g, .slice (some ad) row.length cap][1]? = some (.slice (some ad) row.length cap) from rfl)
  have e1 : ((row.length : Int) == 0) = false := beq_eq_false_iff_ne.mpr (by omega)
  have e2 : (row.length == 0) = false := beq_eq_false_iff_ne.mpr (by omega)
  have e3 : (0 < (row.length : Int)) = True := eq_true (by omega)
  have e3b : (0 < row.length) = True := eq_true hlen
  have HLW : Aside0 (lr < w.heap.size) := ⟨by obtain ⟨V, es, h1, -⟩ := hL; exact (Array.getElem?_eq_some_iff.1 h1).1⟩
  have HL := Aside0.mk (hL.below b1); have HB1 := Aside0.mk b1; have HK1 := Aside0.mk k1; have HDS := Aside0.mk hds; have HLN := Aside0.mk hln; have HR := Aside0.mk (Kd.R_below hR b1); have HLE := Aside0.mk hlen; have HA := Aside0.mk hA
  clear hL b1 k1 hC hx0 hx1 hx2 hds hln hR hlen hA
  go_enter Tryz.func31, Tryz.ntmps31
  go_wp2_with fail
  generalize w.alloc (.cells #[.bool g, .slice (some ad) row.length cap] 26) = w1 at *
  obtain ⟨V, es, q1, q2, q3⟩ := HL.out
  obtain ⟨A2, c2, rfl, hc2, hC2⟩ := Kd.R_reads q2
  have hel := q3.len
  have q1' := q1
  have hc2' := hc2
  have hCd := reads_deeds hC2 q3
  rw [hel] at q1' hc2'
  refine (place.calls K w1 lr A2 c2 ds ⟨g, row⟩ q1' hCd HDS.out (by have := HLN.out; simp only [maxLen]; omega) HA.out).mono ?_
  rintro e w2 ⟨rfl, hb2⟩
  obtain ⟨r, hr⟩ : ∃ r, r = rank ds ⟨g, row⟩ := ⟨_, rfl⟩
  obtain ⟨k2, hk2⟩ : ∃ k2, k2 = (if there ds ⟨g, row⟩ = true then rank ds ⟨g, row⟩ + 1 else rank ds ⟨g, row⟩) := ⟨_, rfl⟩
  have hrl : r ≤ es.length := by rw [hr, hel]; exact rank_le _ _
  have hkl : k2 ≤ es.length := by
    rw [hk2, hel]
    split
    · have := there_lt (by assumption); omega
    · exact rank_le _ _
  have HQ1 := Aside0.mk ((hb2.block _ (Array.getElem?_eq_some_iff.1 q1).1).trans q1); have HQ2 := Aside0.mk (Kd.C_below hC2 hb2); have HQ3 := Aside0.mk (q3.imp (fun _ _ h => Kd.R_below h hb2)); have HCL := Aside0.mk hc2; have HR2 := Aside0.mk (Kd.R_below HR.out hb2); have HEL := Aside0.mk hel; have HRK := Aside0.mk hr; have HK2 := Aside0.mk hk2; have HRL := Aside0.mk hrl; have HKL := Aside0.mk hkl
  have HK3 := Aside0.mk ((hb2.block _ (Array.getElem?_eq_some_iff.1 HK1.out).1).trans HK1.out)
  have HB2 := Aside0.mk (HB1.out.trans (hb2.mono HB1.out.size))
  have q5 : IntKind.i64.wrap ((r : Int) + 1) = ((r + 1 : Nat) : Int) := by
    have := HLN.out
    rw [IntWalk.i64_in _ (by omega)]; rfl
  rw [← hr]
  clear q1 q2 q3 hc2 hC2 hel q1' hc2' hCd hb2 HL HR HB1 HK1 y0 y1 y2 p0 p1 hr hrl hkl hk2
  obtain ⟨th, hth⟩ : ∃ th, th = there ds ⟨g, row⟩ := ⟨_, rfl⟩
  rw [← hth]
  have HTH := Aside0.mk hth
  clear hth
  rcases th with _ | _
  · obtain rfl : r = k2 := by rw [HK2.out, if_neg (by rw [← HTH.out]; decide), HRK.out]
    go_wp2_with fail
    have HXX := Aside0.mk (And.intro HRL.out HKL.out)
    have cu1 := cutH A2 es.length c2 r (Nat.le_trans HRL.out HCL.out)
    have cu2 := cutL A2 es.length c2 r HKL.out HCL.out
    obtain ⟨m, hm⟩ : ∃ m, m = es.length - r := ⟨_, rfl⟩
    obtain ⟨c3, hc3⟩ : ∃ c3, c3 = c2 - r := ⟨_, rfl⟩
    rw [← hm, ← hc3] at cu2
    obtain ⟨A3, hA3⟩ : ∃ A3, A3 = (if c2 = r then A2 else A2.map (·.add (r * 2))) := ⟨_, rfl⟩
    rw [← hA3] at cu2
    have HCT := Aside0.mk (C_takeN HQ2.out r HRL.out)
    have HCD : Aside0 (Kd.C kS w2 A3 m (es.drop r)) := ⟨by rw [hA3, hm]; exact C_dropN HQ2.out HCL.out r HKL.out⟩
    have l0 := (blk_cell HQ1.out 0).trans (show #[Value.slice A2 es.length c2][0]? = some (.slice A2 es.length c2) from rfl)
    have d0 := (blk_cell HK3.out 0).trans (show #[Value.bool g, .slice (some ad) row.length cap][0]? = some (.bool g) from rfl)
    have d1 := (blk_cell HK3.out 1).trans (show #[Value.bool g, .slice (some ad) row.length cap][1]? = some (.slice (some ad) row.length cap) from rfl)
    have HB3 := Aside0.mk (below_drew (Below.refl w2.heap.size w2))
    have HM := Aside0.mk hm
    clear hA3 hm hc3
    obtain ⟨n5, hn5⟩ : ∃ n5, n5 = ([] ++ es.take r ++ [((g, (some ad, row.length, cap)) : Fl)] ++ es.drop r).length := ⟨_, rfl⟩
    have HN5 := Aside0.mk hn5
    clear hn5
    have l0a := cell_on (below_alloc (below_drew (Below.refl w2.heap.size w2)) (.cells #[.bool g, .slice (some ad) row.length cap] 26)) l0
    have l0b := cell_on (below_alloc (Below.refl w2.heap.size w2) (.cells #[.bool g, .slice (some ad) row.length cap] 26)) l0
    have HL0 := Aside0.mk l0; have HD0 := Aside0.mk d0; have HD1 := Aside0.mk d1
    go_region_law
      (first
        | (refine Kd.R_append_rows_step kS (Rr := kS.K _) (w0 := w2) w2.heap.size (by rfl) (.const (.slice none 0 0)) (.tmp 31) 28 26 (.agg #[.bool false, .slice none 0 0]) 32 rfl Tryz.underlying28 info26d rfl (by decide) (by omega) (.slice none 0 0) [] (es.take r) A2 r c2 (fun _ => True) (fun _ => False) rfl rfl (Kd.R_nil _ _ _ _ _) (Kd.C_below HCT.out (by first | exact HB3.out | exact HB3.out.alloc HB3.out.size _)) (fun x cs h => kS_KM x cs h) (fun _ h => h.elim) (fun _ _ => trivial) (by first | exact HB3.out | exact HB3.out.alloc HB3.out.size _) (Below.size (by first | exact HB3.out | exact HB3.out.alloc HB3.out.size _)) (by simp only [List.length_nil]; have h1 := HLN.out; have h2 := HRL.out; have h3 := HEL.out; omega) ?_; intro v2 w3 hr2 hb3 hg3 _; (have HR2' := Aside0.mk hr2); (have HG3 := Aside0.mk hg3); clear HB3; (have HB3 := Aside0.mk hb3); (have l3 := cell_on hb3 HL0.out); (have l3a := cell_on (below_alloc (Below.refl _ w3) (.cells #[.bool g, .slice (some ad) row.length cap] 26)) l3); (have d30 := cell_on hb3 HD0.out); (have d31 := cell_on hb3 HD1.out); clear hr2 hb3 hg3)
        | (refine Kd.R_append_step kS (w0 := w2) w2.heap.size (by rfl) (.tmp 32) (.tmp 34) 28 26 (.agg #[.bool false, .slice none 0 0]) 32 rfl Tryz.underlying28 info26d rfl (by decide) (by omega) v2 _ ((g, (some ad, row.length, cap)) : Fl) [.bool g, .slice (some ad) row.length cap] (fun _ => True) (fun _ => False) rfl rfl (kS_mkM _ _ _ (g, (some ad, row.length, cap))) (fun _ h => h.elim) (fun _ _ => trivial) HR2'.out HB3.out HB3.out.size (by simp only [List.nil_append, List.length_take]; have h1 := HLN.out; have h2 := HRL.out; have h3 := HEL.out; omega) ?_; intro v4 w4 hr4 hb4 hg4 _; (have HR4 := Aside0.mk hr4); clear HB3 HR2'; (have HB3 := Aside0.mk hb4); (have l4 := cell_on hb4 HL0.out); (have d40 := cell_on hb4 HD0.out); (have d41 := cell_on hb4 HD1.out); clear hr4 hb4 hg4)
        | (refine Kd.R_append_rows_step kS (Rr := kS.K _) (w0 := w2) w2.heap.size (by rfl) (.tmp 32) (.tmp 34) 28 26 (.agg #[.bool false, .slice none 0 0]) 32 rfl Tryz.underlying28 info26d rfl (by decide) (by omega) v2 _ [((g, (some ad, row.length, cap)) : Fl)] (some ⟨w2.heap.size, 0, none⟩) 1 1 (fun _ => True) (fun _ => False) rfl rfl HR2'.out (oneS ((HG3.out.block _ (by simp) (by simp [Value.ownBlock])).trans (heap_alloc_new w2.drew _))) (fun x cs h => kS_KM x cs h) (fun _ h => h.elim) (fun _ _ => trivial) HB3.out HB3.out.size (by simp only [List.nil_append, List.length_take]; have h1 := HLN.out; have h2 := HRL.out; have h3 := HEL.out; omega) ?_; intro v4 w4 hr4 hb4 hg4 _; (have HR4 := Aside0.mk hr4); clear HB3 HR2'; (have HB3 := Aside0.mk hb4); (have l4 := cell_on hb4 HL0.out); (have d40 := cell_on hb4 HD0.out); (have d41 := cell_on hb4 HD1.out); clear hr4 hb4 hg4)
        | (refine Kd.R_append_rows_step kS (Rr := kS.K _) (w0 := w2) w2.heap.size (by rfl) (.tmp 35) (.tmp 41) 28 26 (.agg #[.bool false, .slice none 0 0]) 32 rfl Tryz.underlying28 info26d rfl (by decide) (by omega) v4 _ (es.drop r) A3 m c3 (fun _ => True) (fun _ => False) rfl rfl HR4.out (Kd.C_below HCD.out HB3.out) (fun x cs h => kS_KM x cs h) (fun _ h => h.elim) (fun _ _ => trivial) HB3.out HB3.out.size (by simp only [List.nil_append, List.length_append, List.length_take, List.length_singleton]; have h1 := HLN.out; have h2 := HRL.out; have h3 := HEL.out; have h4 := HM.out; have h5 := HKL.out; omega) ?_; intro v5 w5 hr5 hb5 hg5 _; (obtain ⟨A5, c5, hv5⟩ := Kd.R_slice hr5); rw [← HN5.out] at hv5; subst hv5; (have HR5 := Aside0.mk hr5); clear HB3 HR4; (have HB3 := Aside0.mk hb5); (have l5 := cell_on hb5 HL0.out); (have HLB := Aside0.mk ((hb5.block _ (Array.getElem?_eq_some_iff.1 HQ1.out).1).trans HQ1.out)); (have f5 := blk_frozen HLB.out 0); clear hr5 hb5 hg5))
    all_goals (
      have hfin := rput_end HLW.out HB2.out HB3.out HQ1.out HQ3.out HR2.out HR5.out HRK.out (by rw [if_neg (by rw [← HTH.out]; decide)]; exact HRK.out)
      have HFIN := Aside0.mk hfin
      clear hfin
      go_wp2_with fail
      go_ret
      exact ⟨rfl, HFIN.out.1, HFIN.out.2⟩)
  · have hk : (r : Int) + 1 = (k2 : Int) := by rw [HK2.out, if_pos HTH.out.symm, ← HRK.out]; rfl
    have HKK := Aside0.mk hk
    clear hk
    go_wp2_with fail
    rw [HKK.out]
    have HXX := Aside0.mk (And.intro HRL.out HKL.out)
    have cu1 := cutH A2 es.length c2 r (Nat.le_trans HRL.out HCL.out)
    have cu2 := cutL A2 es.length c2 k2 HKL.out HCL.out
    obtain ⟨m, hm⟩ : ∃ m, m = es.length - k2 := ⟨_, rfl⟩
    obtain ⟨c3, hc3⟩ : ∃ c3, c3 = c2 - k2 := ⟨_, rfl⟩
    rw [← hm, ← hc3] at cu2
    obtain ⟨A3, hA3⟩ : ∃ A3, A3 = (if c2 = k2 then A2 else A2.map (·.add (k2 * 2))) := ⟨_, rfl⟩
    rw [← hA3] at cu2
    have HCT := Aside0.mk (C_takeN HQ2.out r HRL.out)
    have HCD : Aside0 (Kd.C kS w2 A3 m (es.drop k2)) := ⟨by rw [hA3, hm]; exact C_dropN HQ2.out HCL.out k2 HKL.out⟩
    have l0 := (blk_cell HQ1.out 0).trans (show #[Value.slice A2 es.length c2][0]? = some (.slice A2 es.length c2) from rfl)
    have d0 := (blk_cell HK3.out 0).trans (show #[Value.bool g, .slice (some ad) row.length cap][0]? = some (.bool g) from rfl)
    have d1 := (blk_cell HK3.out 1).trans (show #[Value.bool g, .slice (some ad) row.length cap][1]? = some (.slice (some ad) row.length cap) from rfl)
    have HB3 := Aside0.mk (below_drew (Below.refl w2.heap.size w2))
    have HM := Aside0.mk hm
    clear hA3 hm hc3
    obtain ⟨n5, hn5⟩ : ∃ n5, n5 = ([] ++ es.take r ++ [((g, (some ad, row.length, cap)) : Fl)] ++ es.drop k2).length := ⟨_, rfl⟩
    have HN5 := Aside0.mk hn5
    clear hn5
    have l0a := cell_on (below_alloc (below_drew (Below.refl w2.heap.size w2)) (.cells #[.bool g, .slice (some ad) row.length cap] 26)) l0
    have l0b := cell_on (below_alloc (Below.refl w2.heap.size w2) (.cells #[.bool g, .slice (some ad) row.length cap] 26)) l0
    have HL0 := Aside0.mk l0; have HD0 := Aside0.mk d0; have HD1 := Aside0.mk d1
    go_region_law
      (first
        | (refine Kd.R_append_rows_step kS (Rr := kS.K _) (w0 := w2) w2.heap.size (by rfl) (.const (.slice none 0 0)) (.tmp 31) 28 26 (.agg #[.bool false, .slice none 0 0]) 32 rfl Tryz.underlying28 info26d rfl (by decide) (by omega) (.slice none 0 0) [] (es.take r) A2 r c2 (fun _ => True) (fun _ => False) rfl rfl (Kd.R_nil _ _ _ _ _) (Kd.C_below HCT.out (by first | exact HB3.out | exact HB3.out.alloc HB3.out.size _)) (fun x cs h => kS_KM x cs h) (fun _ h => h.elim) (fun _ _ => trivial) (by first | exact HB3.out | exact HB3.out.alloc HB3.out.size _) (Below.size (by first | exact HB3.out | exact HB3.out.alloc HB3.out.size _)) (by simp only [List.length_nil]; have h1 := HLN.out; have h2 := HRL.out; have h3 := HEL.out; omega) ?_; intro v2 w3 hr2 hb3 hg3 _; (have HR2' := Aside0.mk hr2); (have HG3 := Aside0.mk hg3); clear HB3; (have HB3 := Aside0.mk hb3); (have l3 := cell_on hb3 HL0.out); (have l3a := cell_on (below_alloc (Below.refl _ w3) (.cells #[.bool g, .slice (some ad) row.length cap] 26)) l3); (have d30 := cell_on hb3 HD0.out); (have d31 := cell_on hb3 HD1.out); clear hr2 hb3 hg3)
        | (refine Kd.R_append_step kS (w0 := w2) w2.heap.size (by rfl) (.tmp 32) (.tmp 34) 28 26 (.agg #[.bool false, .slice none 0 0]) 32 rfl Tryz.underlying28 info26d rfl (by decide) (by omega) v2 _ ((g, (some ad, row.length, cap)) : Fl) [.bool g, .slice (some ad) row.length cap] (fun _ => True) (fun _ => False) rfl rfl (kS_mkM _ _ _ (g, (some ad, row.length, cap))) (fun _ h => h.elim) (fun _ _ => trivial) HR2'.out HB3.out HB3.out.size (by simp only [List.nil_append, List.length_take]; have h1 := HLN.out; have h2 := HRL.out; have h3 := HEL.out; omega) ?_; intro v4 w4 hr4 hb4 hg4 _; (have HR4 := Aside0.mk hr4); clear HB3 HR2'; (have HB3 := Aside0.mk hb4); (have l4 := cell_on hb4 HL0.out); (have d40 := cell_on hb4 HD0.out); (have d41 := cell_on hb4 HD1.out); clear hr4 hb4 hg4)
        | (refine Kd.R_append_rows_step kS (Rr := kS.K _) (w0 := w2) w2.heap.size (by rfl) (.tmp 32) (.tmp 34) 28 26 (.agg #[.bool false, .slice none 0 0]) 32 rfl Tryz.underlying28 info26d rfl (by decide) (by omega) v2 _ [((g, (some ad, row.length, cap)) : Fl)] (some ⟨w2.heap.size, 0, none⟩) 1 1 (fun _ => True) (fun _ => False) rfl rfl HR2'.out (oneS ((HG3.out.block _ (by simp) (by simp [Value.ownBlock])).trans (heap_alloc_new w2.drew _))) (fun x cs h => kS_KM x cs h) (fun _ h => h.elim) (fun _ _ => trivial) HB3.out HB3.out.size (by simp only [List.nil_append, List.length_take]; have h1 := HLN.out; have h2 := HRL.out; have h3 := HEL.out; omega) ?_; intro v4 w4 hr4 hb4 hg4 _; (have HR4 := Aside0.mk hr4); clear HB3 HR2'; (have HB3 := Aside0.mk hb4); (have l4 := cell_on hb4 HL0.out); (have d40 := cell_on hb4 HD0.out); (have d41 := cell_on hb4 HD1.out); clear hr4 hb4 hg4)
        | (refine Kd.R_append_rows_step kS (Rr := kS.K _) (w0 := w2) w2.heap.size (by rfl) (.tmp 35) (.tmp 41) 28 26 (.agg #[.bool false, .slice none 0 0]) 32 rfl Tryz.underlying28 info26d rfl (by decide) (by omega) v4 _ (es.drop k2) A3 m c3 (fun _ => True) (fun _ => False) rfl rfl HR4.out (Kd.C_below HCD.out HB3.out) (fun x cs h => kS_KM x cs h) (fun _ h => h.elim) (fun _ _ => trivial) HB3.out HB3.out.size (by simp only [List.nil_append, List.length_append, List.length_take, List.length_singleton]; have h1 := HLN.out; have h2 := HRL.out; have h3 := HEL.out; have h4 := HM.out; have h5 := HKL.out; have h6 := HKK.out; omega) ?_; intro v5 w5 hr5 hb5 hg5 _; (obtain ⟨A5, c5, hv5⟩ := Kd.R_slice hr5); rw [← HN5.out] at hv5; subst hv5; (have HR5 := Aside0.mk hr5); clear HB3 HR4; (have HB3 := Aside0.mk hb5); (have l5 := cell_on hb5 HL0.out); (have HLB := Aside0.mk ((hb5.block _ (Array.getElem?_eq_some_iff.1 HQ1.out).1).trans HQ1.out)); (have f5 := blk_frozen HLB.out 0); clear hr5 hb5 hg5))
    all_goals (
      have hfin := rput_end HLW.out HB2.out HB3.out HQ1.out HQ3.out HR2.out HR5.out HRK.out HK2.out
      have HFIN := Aside0.mk hfin
      clear hfin
      go_wp2_with fail
      go_ret
      exact ⟨rfl, HFIN.out.1, HFIN.out.2⟩)
end Go.Proofs.YtojcbknclfamhaaGreatDoor.A
namespace Go.Proofs.YtojcbknclfamhaaGreatDoor.A
open Go.RowKit Go.Proofs.YtojcbknclfamhaaGreatDoorW.PrintWords Go.Proofs.YtojcbknclfamhaaGreatDoorW.PrintLast Go.Proofs.YtojcbknclfamhaaGreatDoorW.PrintMore
set_option linter.unusedVariables false
set_option linter.unusedSimpArgs false
def RPut (K : Nat) : List S26 → List S26 → List S26 → Prop
  | ds, [], D => D = ds
  | ds, d :: rest, D => 0 < d.f1.length ∧ (ds.length + 1) * 32 ≤ 140737488355328 ∧ AhOk K ds (keyOf d) ∧ RPut K (putL ds d) rest D
def RGo (k K : Nat) (s : List S44) : List S26 → List ByteArray → List S26 → Int → Prop
  | ds, [], D, e => D = ds ∧ e = 0
  | ds, t :: ts, D, e => ∃ rd er, tithebarnref15_Read.f k s t = some (rd, er) ∧ ((er ≠ 0 ∧ D = [] ∧ e = er) ∨ (er = 0 ∧ ∃ ds2, RPut K ds rd ds2 ∧ RGo k K s ds2 ts D e))
theorem R_lenz {α : Type} {d : Kd α} {e : Nat} {W : World} {base : Nat} {ok : Nat → Prop} {V : Value} {xs : List α} (h : d.R e W base ok V xs) : xs.length ≤ maxLen := by
  obtain ⟨inner, ho⟩ := Kd.R_own h
  rcases ho.2 with ⟨-, h0⟩ | ⟨g, cap, cur, -, -, -, h1, h2, -⟩
  · omega
  · omega
theorem R_keepRL {α : Type} {d : Kd α} {e lr : Nat} {W W1 : World} {base : Nat} {ok : Nat → Prop} {V : Value} {x : List α} {ds : List S26} (hk : KeepL lr W W1) (hl : RL W lr ds) (hE : ∀ q, q ∈ e :: d.E → q ≠ 65) (h : d.R e W base ok V x) : d.R e W1 base ok V x := by
  obtain ⟨V0, es, h1, -⟩ := hl
  refine Kd.R_mono (Kd.R_step (Kd.R_bound h) (fun k hk1 hlt => ?_)) (fun _ hk1 => hk1.1)
  obtain ⟨-, -, -, q, hq, cells, hcell⟩ := hk1
  refine hk.2.2.2.2 k hlt fun e => ?_
  rw [e, h1] at hcell
  cases hcell
  exact hE _ hq rfl
theorem KeepL.belowB {lr B : Nat} {w w' : World} (h : KeepL lr w w') (hB : B ≤ lr) (hs : B ≤ w.heap.size) : Below B w w' := ⟨h.1, h.2.1, h.2.2.1, h.2.2.2.1, fun k hk => h.2.2.2.2 k (by omega) (by omega)⟩
theorem deedM_at {W : World} {base n c : Nat} {ok : Nat → Prop} {A : Option Addr} {xs : List S26} (h : Kd.R k26 26 W base ok (.slice A n c) xs) (j : Nat) (hj : j < xs.length) : ∃ ad A3 c3, A = some ad ∧ W.cell? (ad.add (j * 2)) = some (.bool xs[j].f0) ∧ W.cell? ⟨(ad.add (j * 2)).block, (ad.add (j * 2)).off + 1, none⟩ = some (.slice A3 xs[j].f1.length c3) ∧ Kd.R k46 46 W 0 (fun _ => True) (.slice A3 xs[j].f1.length c3) xs[j].f1 := by
  obtain ⟨A', c', hv, hl, hrow⟩ := OwnRow.reads h.2
  simp only [Value.slice.injEq] at hv
  obtain ⟨rfl, -, -⟩ := hv
  obtain ⟨ad, cs, e, hlen, hM, hcell⟩ := hrow.get_ ⟨false, []⟩ (j : Int) (by omega) (by omega)
  have hg : xs.getD (j : Int).toNat ⟨false, []⟩ = xs[j] := by simp [List.getD, hj]
  rw [hg] at hM
  obtain ⟨v1, rfl, hR⟩ := k26_openM hM
  obtain ⟨A3, c3, rfl⟩ := Kd.R_slice hR
  have e0 := hcell 0 (.bool xs[j].f0) rfl
  have e1 := hcell 1 (.slice A3 xs[j].f1.length c3) rfl
  rw [Int.toNat_natCast, show k26.sz = 2 from rfl] at e0 e1
  rw [Nat.add_zero] at e0
  rw [add_field ad (j * 2) 1 (by omega)] at e1
  exact ⟨ad, A3, c3, e, e0, e1, Kd.R_mono (Kd.R_lower hR (Nat.zero_le _)) (fun _ _ => trivial)⟩
theorem RPut.rows {K : Nat} : ∀ {l ds D : List S26}, RPut K ds l D → ∀ d ∈ l, 0 < d.f1.length
  | [], _, _, _, d, hd => by cases hd
  | x :: l, ds, D, h, d, hd => by
    rcases List.mem_cons.1 hd with rfl | hd
    · exact h.1
    · exact RPut.rows h.2.2.2 d hd
def RRepP (w : World) (D : List S26) (r : Int) (e : Ending) (w' : World) : Prop := ∃ A c, e = .returned (.tuple #[.slice A D.length c, .int .i64 r]) ∧ D.length ≤ c ∧ Kd.C k26 w' A D.length D ∧ Below w.heap.size w w'
set_option maxHeartbeats 16000000 in
set_option maxRecDepth 100000 in
theorem rreplay.calls (k K : Nat) (A0 : Option Addr) (c0 : Nat) (l0 : List S44) (A1 : Option Addr) (c1 : Nat) (l1 : List ByteArray) (D : List S26) (r : Int) (w : World) (hr0 : Kd.C k44 w A0 l0.length l0) (hc0 : l0.length ≤ c0) (hr1 : Kd.C Kd.string w A1 l1.length l1) (hc1 : l1.length ≤ c1) (hl8 : l1.length ≤ 8) (h : RGo k K l0 [] l1 D r) :
    Calls Tryz.prog 13 #[.slice A0 l0.length c0, .slice A1 l1.length c1] w (RRepP w D r) := by
  have hu28 := Tryz.underlying28
  have hu36 := Tryz.underlying26
  have hu43 := Tryz.underlying36
  have hu65 := Tryz.underlying65
  have b1 := below_alloc (Below.refl _ w) (.cells #[.slice none 0 0] 65)
  have k1 := blk_new w (.cells #[.slice none 0 0] 65)
  have HR0 := Aside0.mk hr0; have HR1 := Aside0.mk hr1; have HC0 := Aside0.mk hc0; have HC1 := Aside0.mk hc1; have HL8 := Aside0.mk hl8; have HH := Aside0.mk h
  have HL : Aside0 (RL (w.alloc (.cells #[.slice none 0 0] 65)) w.heap.size []) := ⟨_, [], k1, Kd.R_nil _ _ _ _ _, trivial⟩
  have HB1 := Aside0.mk b1
  clear hr0 hr1 hc0 hc1 hl8 h b1 k1
  go_enter Tryz.func13, Tryz.ntmps13
  go_upto_block 0 with fail
  go_wp2_with fail
  generalize w.alloc (.cells #[.slice none 0 0] 65) = w1 at *
  go_loopg [7] l1.length (fun gg s7 wr => ∃ (i : Nat) (ds : List S26), i ≤ l1.length ∧ l1.length - i ≤ gg ∧ s7 = .int .i64 (i : Int) ∧ Aside0 (RL wr w.heap.size ds) ∧ Aside0 (∀ x ∈ ds, 0 < x.f1.length) ∧ Aside0 (Below w.heap.size w wr) ∧ Aside0 (RGo k K l0 ds (l1.drop i) D r))
  case atStart => exact ⟨0, [], by omega, by omega, rfl, HL, ⟨fun x hx => by cases hx⟩, HB1, HH⟩
  case round =>
    clear HL HH HB1
    rename World => wr
    obtain ⟨i, ds, hi, hgg, rfl, HL, HDS, HB, HH⟩ := hrel
    by_cases hlt : i < l1.length
    · have hdrop : l1.drop i = l1[i] :: l1.drop (i + 1) := List.drop_eq_getElem_cons hlt
      have hh := HH.out
      rw [hdrop] at hh
      obtain ⟨rd, er, hrd, hgo⟩ := hh
      obtain ⟨ad, rfl, hx⟩ := Kd.at_string (Kd.C_below HR1.out HB.out) (i : Int) (by omega) (by omega)
      rw [show rdOf ByteArray.empty l1 (i : Int) = l1[i] by simp [rdOf, List.getD, hlt], Int.toNat_natCast] at hx
      have e1 : decide ((i : Int) < (l1.length : Int)) = true := decide_eq_true (by omega)
      have e2 : decide (i < l1.length) = true := decide_eq_true hlt
      have e3 : (0 ≤ (i : Int)) = True := eq_true (by omega)
      have e4 : ((i : Int) < (l1.length : Int)) = True := eq_true (by omega)
      have e4b : (i < l1.length) = True := eq_true hlt
      have e5 : IntKind.i64.wrap ((i : Int) + 1) = ((i + 1 : Nat) : Int) := by
        have := HL8.out
        rw [IntWalk.i64_in _ (by omega)]; rfl
      have HRD := Aside0.mk hrd; have HGO := Aside0.mk hgo; have HI := Aside0.mk (And.intro hlt hgg)
      generalize htx : l1[i] = tx at *
      clear hdrop HH hrd hgo hi hgg hlt htx
      go_wp2_with fail
      refine (tithebarnref15_Read.calls k A0 c0 l0 tx rd er wr (Kd.C_below HR0.out HB.out) HC0.out HRD.out).mono ?_
      rintro e w2 ⟨V, rfl, hSd, hb2⟩
      have hRd := Kd.S_R hSd
      have hln := R_lenz hRd
      obtain ⟨A2, c2, rfl⟩ := Kd.R_slice hRd
      have HRW := Aside0.mk hRd; have HLD := Aside0.mk hln
      have HL2 := Aside0.mk (HL.out.below hb2); have HB2 := Aside0.mk (HB.out.trans (hb2.mono HB.out.size))
      clear HL HB hSd hRd hln hb2 hx
      by_cases her : er = 0
      · subst her
        obtain ⟨ds2, hp2, hrest⟩ : ∃ ds2, RPut K ds rd ds2 ∧ RGo k K l0 ds2 (l1.drop (i + 1)) D r := by
          rcases HGO.out with ⟨h, -⟩ | ⟨-, h⟩
          · exact absurd rfl h
          · exact h
        have HP2 := Aside0.mk hp2; have HREST := Aside0.mk hrest; have HROW := Aside0.mk hp2.rows
        clear hp2 hrest HGO HRD
        go_upto_block 2 with fail
        go_wp2_with fail
        go_loopg [10] rd.length (fun gg s10 wr2 => ∃ (j : Nat) (dsj : List S26), j ≤ rd.length ∧ rd.length - j ≤ gg ∧ s10 = .int .i64 (j : Int) ∧ Aside0 (RL wr2 w.heap.size dsj) ∧ Aside0 (∀ x ∈ dsj, 0 < x.f1.length) ∧ Aside0 (Below w.heap.size w wr2) ∧ Aside0 (Kd.R k26 26 wr2 wr.heap.size (fun _ => True) (.slice A2 rd.length c2) rd) ∧ Aside0 (RPut K dsj (rd.drop j) ds2))
        case atStart => exact ⟨0, ds, by omega, by omega, rfl, HL2, HDS, HB2, HRW, HP2⟩
        case round =>
          clear HL2 HDS HB2 HRW HP2
          rename World => wr2
          obtain ⟨j, dsj, hj, hgg, rfl, HL, HDS, HB, HRW, HP⟩ := hrel
          by_cases hlt : j < rd.length
          · have hdrop : rd.drop j = rd[j] :: rd.drop (j + 1) := List.drop_eq_getElem_cons hlt
            have hp := HP.out
            rw [hdrop] at hp
            obtain ⟨h1, h2, h3, h4⟩ := hp
            obtain ⟨ad2, A3, c3, rfl, hx0, hx1, hR3⟩ := deedM_at HRW.out j hlt
            have HP' := Aside0.mk h4; have H1 := Aside0.mk h1; have H2 := Aside0.mk h2; have H3 := Aside0.mk h3; have HR3 := Aside0.mk hR3
            have HJ := Aside0.mk (And.intro hlt hgg)
            have e1 : decide ((j : Int) < (rd.length : Int)) = true := decide_eq_true (by omega)
            have e2 : decide (j < rd.length) = true := decide_eq_true hlt
            have e3 : (0 ≤ (j : Int)) = True := eq_true (by omega)
            have e4 : ((j : Int) < (rd.length : Int)) = True := eq_true (by omega)
            have e4b : (j < rd.length) = True := eq_true hlt
            have e5' : IntKind.i64.wrap ((j : Int) + 1) = ((j + 1 : Nat) : Int) := by
              have := HLD.out
              rw [IntWalk.i64_in _ (by simp only [maxLen] at this; omega)]; rfl
            generalize rd[j] = dj at *
            obtain ⟨g, row⟩ := dj
            clear hdrop h1 h2 h3 h4 hR3 hj hgg hlt HP
            go_wp2_with fail
            refine (rput.calls K wr2 w.heap.size dsj g A3 c3 row HL.out HDS.out H2.out HR3.out H1.out H3.out).mono ?_
            rintro e w6 ⟨rfl, hL6, hK6⟩
            have HL6 := Aside0.mk hL6
            have HDS6 : Aside0 (∀ x ∈ putL dsj ⟨g, row⟩, 0 < x.f1.length) := ⟨fun x hx => by
              rcases putL_mem _ _ _ hx with rfl | hx
              · exact H1.out
              · exact HDS.out x hx⟩
            have HB6 := Aside0.mk (HB.out.trans (hK6.belowB (Nat.le_refl _) HB.out.size))
            have HR6 := Aside0.mk (R_keepRL hK6 HL.out (by decide) HRW.out)
            clear hL6 hK6 HL HDS HB HRW
            go_wp2_with fail
            go_roundg (rd.length - (j + 1))
            case measure => have := HJ.out; omega
            case rel => exact ⟨j + 1, putL dsj ⟨g, row⟩, by have := HJ.out.1; omega, Nat.le_refl _, rfl, HL6, HDS6, HB6, HR6, HP'⟩
          · have e1 : decide ((j : Int) < (rd.length : Int)) = false := decide_eq_false (by omega)
            have e2 : decide (j < rd.length) = false := decide_eq_false hlt
            have hd2 : ds2 = dsj := by
              have h := HP.out
              rw [List.drop_eq_nil_of_le (Nat.le_of_not_lt hlt)] at h
              exact h
            subst hd2
            clear HP hgg
            go_wp2_with fail
            go_roundg (l1.length - (i + 1))
            case measure => have := HI.out; omega
            case rel => exact ⟨i + 1, ds2, by have := HI.out.1; omega, Nat.le_refl _, rfl, HL, HDS, HB, HREST⟩
      · obtain ⟨-, rfl, rfl⟩ : er ≠ 0 ∧ D = [] ∧ r = er := by
          rcases HGO.out with h | ⟨h, -⟩
          · exact h
          · exact absurd h her
        have e6 : (r == 0) = false := beq_eq_false_iff_ne.mpr her
        have e7 : (r != 0) = true := by simp [her]
        go_wp2_with fail
        go_ret2
        exact ⟨none, 0, rfl, Nat.le_refl _, Kd.C_nil _ _, HB2.out⟩
    · have e1 : decide ((i : Int) < (l1.length : Int)) = false := decide_eq_false (by omega)
      have e2 : decide (i < l1.length) = false := decide_eq_false hlt
      have hres : D = ds ∧ r = 0 := by
        have h := HH.out
        rw [List.drop_eq_nil_of_le (Nat.le_of_not_lt hlt)] at h
        exact h
      obtain ⟨rfl, rfl⟩ := hres
      obtain ⟨A5, c5, hl5, hc5, hC5⟩ := HL.out.read
      have l0' := (blk_cell hl5 0).trans (show #[Value.slice A5 D.length c5][0]? = some (.slice A5 D.length c5) from rfl)
      have HC5 := Aside0.mk hC5; have HL5 := Aside0.mk hc5
      clear HH hgg hl5 hC5 hc5
      go_wp2_with fail
      go_ret2
      exact ⟨A5, c5, rfl, HL5.out, HC5.out, HB.out⟩
end Go.Proofs.YtojcbknclfamhaaGreatDoor.A
namespace Go.Proofs.YtojcbknclfamhaaGreatDoor.A
open Go.RowKit Go.Proofs.YtojcbknclfamhaaGreatDoorW.PrintWords Go.Proofs.YtojcbknclfamhaaGreatDoorW.PrintLast Go.Proofs.YtojcbknclfamhaaGreatDoorW.PrintMore
attribute [local go_sem] min2_int min_two
set_option linter.unusedVariables false
set_option linter.unusedSimpArgs false
theorem early.calls (A1 : Option Addr) (c1 : Nat) (l1 : List ByteArray) (w : World) (hc1 : l1.length ≤ c1) :
    Calls Tryz.prog 11 #[.slice A1 l1.length c1] w fun e w' => e = .returned (.slice A1 (l1.take 8).length c1) ∧ w' = w := by
  have hu43 := Tryz.underlying36
  obtain ⟨n, hn⟩ : ∃ n, n = min l1.length 8 := ⟨_, rfl⟩
  have hif : (if (8 : Int) < (l1.length : Int) then (8 : Int) else (l1.length : Int)) = (n : Int) := by split <;> omega
  have hn1 : n ≤ l1.length := by omega
  have e1 : (0 : Int) ≤ (n : Int) := by omega
  have e2 : (n : Int) ≤ (c1 : Int) := by omega
  have e3 : n ≤ c1 := by omega
  have HN : Aside0 ((l1.take 8).length = n) := ⟨by rw [List.length_take]; omega⟩
  clear hn
  go_enter Tryz.func11, Tryz.ntmps11
  go_wp2_with fail
  go_ret
  rw [HN.out]
  exact ⟨rfl, rfl⟩
set_option maxHeartbeats 16000000 in
set_option maxRecDepth 100000 in
theorem replays_calls (k K : Nat) (A0 : Option Addr) (c0 : Nat) (l0 : List S44) (A1 : Option Addr) (c1 : Nat) (l1 : List ByteArray) (D : List S26) (r : Int) (w : World) (hr0 : Kd.C k44 w A0 l0.length l0) (hc0 : l0.length ≤ c0) (hr1 : Kd.C Kd.string w A1 l1.length l1) (hc1 : l1.length ≤ c1)
    (h1 : journal_Replay.f k l0 (l1.take 8) = some (D, r)) (h2 : RGo k K l0 [] (l1.take 8) D r) (h3 : tithebarnref07_SameAll.f k D D = some true) :
    Calls Tryz.prog 4 #[.slice A0 l0.length c0, .slice A1 l1.length c1] w fun e w' => e = .returned (.bool true) ∧ Below w.heap.size w w' := by
  have hl8 : (l1.take 8).length ≤ l1.length := by rw [List.length_take]; omega
  have hl9 : (l1.take 8).length ≤ 8 := by rw [List.length_take]; omega
  have HR0 := Aside0.mk hr0; have HR1 := Aside0.mk (show Kd.C Kd.string w A1 (l1.take 8).length (l1.take 8) by
    by_cases h : 8 ≤ l1.length
    · exact Kd.C_take hr1 h
    · rw [List.take_of_length_le (by omega)]; exact hr1)
  have HC0 := Aside0.mk hc0; have HC1 := Aside0.mk (Nat.le_trans hl8 hc1); have HCC := Aside0.mk hc1; have H1 := Aside0.mk h1; have H2 := Aside0.mk h2; have H3 := Aside0.mk h3; have HL9 := Aside0.mk hl9
  clear hr0 hr1 hc0 hc1 h1 h2 h3 hl8 hl9
  go_enter Tryz.func4, Tryz.ntmps4
  go_wp2_with fail
  refine (tithebarnlaw15_lives.calls 3000 true w lives_T rfl).mono ?_
  rintro e w1 ⟨rfl, hb1⟩
  have HB1 := Aside0.mk hb1
  clear hb1
  go_wp2_with fail
  refine (early.calls A1 c1 l1 w1 HCC.out).mono ?_
  rintro e w1' ⟨rfl, hw1⟩
  obtain rfl := hw1.symm
  generalize l1.take 8 = l2 at *
  go_wp2_with fail
  refine (journal_Replay.calls k A0 c0 l0 A1 c1 l2 D r w1 (Kd.C_below HR0.out HB1.out) HC0.out (Kd.C_below HR1.out HB1.out) HC1.out H1.out).mono ?_
  rintro e w2 ⟨V, rfl, hS, hb2⟩
  obtain ⟨A5, c5, rfl, hc5, hC5⟩ := Kd.R_reads (Kd.S_R hS)
  have HC5 := Aside0.mk hC5; have HL5 := Aside0.mk hc5; have HB2 := Aside0.mk (HB1.out.trans (hb2.mono HB1.out.size))
  clear hS hC5 hc5 hb2 HB1
  go_wp2_with fail
  refine (rreplay.calls k K A0 c0 l0 A1 c1 l2 D r w2 (Kd.C_below HR0.out HB2.out) HC0.out (Kd.C_below HR1.out HB2.out) HC1.out HL9.out H2.out).mono ?_
  rintro e w3 ⟨A6, c6, rfl, hc6, hC6, hb3⟩
  have HC6 := Aside0.mk hC6; have HL6 := Aside0.mk hc6; have HB3 := Aside0.mk (HB2.out.trans (hb3.mono HB2.out.size)); have HC5' := Aside0.mk (Kd.C_below HC5.out hb3)
  have e1 : (r == r) = true := by simp
  have e2 : decide (r = r) = true := by simp
  clear hC6 hc6 hb3 HB2 HC5
  go_wp2_with fail
  refine (tithebarnref07_SameAll.calls k A5 c5 D A6 c6 D true _ HC5'.out HL5.out HC6.out HL6.out H3.out).mono ?_
  rintro e w4 ⟨rfl, hb4⟩
  have HB4 := Aside0.mk (HB3.out.trans (hb4.mono HB3.out.size))
  clear hb4
  go_wp2_with fail
  go_ret
  exact ⟨rfl, HB4.out⟩
end Go.Proofs.YtojcbknclfamhaaGreatDoor.A
namespace Go.Proofs.YtojcbknclfamhaaGreatDoor.A
open Go.RowKit Go.Proofs.YtojcbknclfamhaaGreatDoorW.PrintWords Go.Proofs.YtojcbknclfamhaaGreatDoorW.PrintLast Go.Proofs.YtojcbknclfamhaaGreatDoorW.PrintMore
set_option linter.unusedVariables false
set_option linter.unusedSimpArgs false
theorem drop_byte (s : ByteArray) (i : Nat) (h : i < s.size) : s.toList.drop i = s[i] :: s.toList.drop (i + 1) := by
  rw [ByteArray.toList_eq]
  have : i < s.data.toList.length := by simpa using h
  rw [List.drop_eq_getElem_cons this]
  rfl
theorem bt_lt (s : ByteArray) (i : Nat) (h : i < s.size) : bt s (i : Int) = (s[i].toNat : Int) := by simp [bt, h]
theorem drop_end (s : ByteArray) (i : Nat) (h : s.size ≤ i) : s.toList.drop i = [] := by
  rw [ByteArray.toList_eq]
  exact List.drop_eq_nil_of_le (by simpa using h)
theorem ahead_at (a b : ByteArray) (hs : a.size ≤ maxLen) : ∀ (d i k : Nat), a.size - i ≤ d → i ≤ a.size → i ≤ b.size → 2 * d + 2 ≤ k → tithebarnref02_ahead.l0 k a b (i : Int) = some (Op.bytesLess (a.toList.drop i) (b.toList.drop i)) := by
  intro d
  induction d with
  | zero =>
    intro i k hd ha hb hk
    obtain ⟨k, rfl⟩ : ∃ m, k = m + 2 := ⟨k - 2, by omega⟩
    simp only [tithebarnref02_ahead.l0]
    rw [if_neg (by omega)]
    simp only [tithebarnref02_ahead.j1, Bool.false_eq_true, if_false]
    rw [drop_end a i (by omega), bytesLess_eq]
    by_cases hi : i < b.size
    · rw [drop_byte b i hi]
      simp
      omega
    · rw [drop_end b i (by omega)]
      simp
      omega
  | succ d ih =>
    intro i k hd ha hb hk
    obtain ⟨k, rfl⟩ : ∃ m, k = m + 2 := ⟨k - 2, by omega⟩
    simp only [tithebarnref02_ahead.l0]
    by_cases hi : i < a.size
    · rw [if_pos (by omega)]
      by_cases hj : i < b.size
      · rw [show decide ((i : Int) < (b.size : Int)) = true from decide_eq_true (by omega)]
        simp only [tithebarnref02_ahead.j1, if_true]
        rw [if_pos (by omega), if_pos (by omega), if_pos (by omega), bt_lt a i hi, bt_lt b i hj, drop_byte a i hi, drop_byte b i hj, bytesLess_eq]
        by_cases he : a[i] = b[i]
        · rw [if_pos (by rw [he])]
          have hw : wrap64 ((i : Int) + 1) = ((i + 1 : Nat) : Int) := by unfold wrap64; unfold maxLen at hs; omega
          rw [hw, ih (i + 1) k (by omega) (by omega) (by omega) (by omega), bytesLess_eq]
          congr 1
          rw [he]
          simp
        · rw [if_neg (by intro h; exact he (UInt8.toNat_inj.mp (by omega)))]
          congr 1
          rw [decide_eq_decide, List.cons_lt_cons_iff]
          constructor
          · intro h; exact .inl (UInt8.lt_iff_toNat_lt.mpr (by omega))
          · rintro (h | ⟨h, _⟩)
            · have := UInt8.lt_iff_toNat_lt.mp h; omega
            · exact absurd h he
      · rw [show decide ((i : Int) < (b.size : Int)) = false from decide_eq_false (by omega)]
        simp only [tithebarnref02_ahead.j1, Bool.false_eq_true, if_false]
        rw [drop_end b i (by omega), bytesLess_eq, drop_byte a i hi]
        simp
        omega
    · rw [if_neg (by omega)]
      simp only [tithebarnref02_ahead.j1, Bool.false_eq_true, if_false]
      rw [drop_end a i (by omega), bytesLess_eq]
      by_cases hi : i < b.size
      · rw [drop_byte b i hi]
        simp
        omega
      · rw [drop_end b i (by omega)]
        simp
        omega
theorem ahead_64 (a b : ByteArray) (hs : a.size ≤ 64) (k : Nat) (hk : 200 ≤ k) : tithebarnref02_ahead.f k a b = some (Op.bytesLess a.toList b.toList) := by
  have := ahead_at a b (by unfold maxLen; omega) a.size 0 k (by omega) (by omega) (by omega) (by omega)
  simpa [tithebarnref02_ahead.f] using this
def aheadV (a b : S46) : Bool := if a.f0 = true ∨ b.f0 = true then (a.f0 && !b.f0) else if a.f1 = b.f1 then Op.bytesLess a.f2.toList b.f2.toList else decide (a.f1 < b.f1)
theorem Ahead_64 (a b : S46) (ha : a.f2.size ≤ 64) (k : Nat) (hk : 201 ≤ k) : tithebarnref02_Ahead.f k a.f0 a.f1 a.f2 b.f0 b.f1 b.f2 = some (aheadV a b) := by
  obtain ⟨k, rfl⟩ : ∃ m, k = m + 1 := ⟨k - 1, by omega⟩
  have h := ahead_64 a.f2 b.f2 ha k (by omega)
  have h' := ahead_64 a.f2 b.f2 ha (k + 1) (by omega)
  obtain ⟨a0, a1, a2⟩ := a
  obtain ⟨b0, b1, b2⟩ := b
  simp only at h h'
  unfold aheadV tithebarnref02_Ahead.f
  cases a0 <;> cases b0 <;> simp [tithebarnref02_Ahead.j0, h, h']
  by_cases e : a1 = b1 <;> simp [e]
theorem aheadV_cmp (a b : S46) : aheadV a b = decide (cmpV a b < 0) := by
  rw [cmpV_eq]
  obtain ⟨a0, a1, a2⟩ := a
  obtain ⟨b0, b1, b2⟩ := b
  unfold aheadV cmpS
  cases a0 <;> cases b0 <;> simp
  by_cases e : a1 = b1
  · subst e
    simp
    cases h : Op.bytesLess a2.toList b2.toList
    · simp
      split <;> simp
    · simp
  · rw [if_neg e]
    by_cases h : a1 < b1
    · simp [h]
    · have h2 : b1 < a1 := by omega
      simp [h, h2]
theorem GoodR.key {d : S26} (h : GoodR d.f1) : (keyOf d).f2.size ≤ 64 := by
  obtain ⟨-, h1, h2⟩ := h
  unfold keyOf
  rw [List.getD_eq_getElem?_getD, List.getElem?_eq_getElem h1]
  exact h2 _ (List.getElem_mem h1)
theorem ahOk {ds : List S26} {d : S26} (hds : ∀ x ∈ ds, GoodR x.f1) (hd : GoodR d.f1) : AhOk 1000 ds (keyOf d) := fun x hx =>
  ⟨by rw [Ahead_64 _ _ (hds x hx).key 1000 (by omega), aheadV_cmp], by rw [Ahead_64 _ _ hd.key 1000 (by omega), aheadV_cmp]⟩
theorem putL_len : ∀ (l : List S26) (d : S26), (putL l d).length ≤ l.length + 1
  | [], d => by simp [putL]
  | x :: xs, d => by
    have := putL_len xs d
    unfold putL
    split
    · simp; omega
    · split <;> simp
theorem putL_good {ds : List S26} {d : S26} (hds : ∀ x ∈ ds, GoodR x.f1) (hd : GoodR d.f1) : ∀ x ∈ putL ds d, GoodR x.f1 := fun x hx => by
  rcases putL_mem _ _ _ hx with rfl | hx
  · exact hd
  · exact hds x hx
theorem puts_agree : ∀ (rd ds : List S26), (∀ x ∈ ds, GoodR x.f1) → (∀ x ∈ rd, GoodR x.f1) → ds.length + rd.length ≤ 1000000000 →
    ∃ ds2, putAll ds rd = some ds2 ∧ RPut 1000 ds rd ds2 ∧ (∀ x ∈ ds2, GoodR x.f1) ∧ ds2.length ≤ ds.length + rd.length
  | [], ds, h1, h2, h3 => ⟨ds, rfl, rfl, h1, Nat.le_refl _⟩
  | d :: rd, ds, h1, h2, h3 => by
    have hd := h2 d (by simp)
    have hlen := putL_len ds d
    rw [List.length_cons] at h3
    obtain ⟨ds2, g1, g2, g3, g4⟩ := puts_agree rd (putL ds d) (putL_good h1 hd) (fun x hx => h2 x (List.mem_cons_of_mem _ hx)) (by omega)
    have hd1 := hd.1
    have hd2 := hd.2.1
    refine ⟨ds2, ?_, ⟨hd.2.1, by omega, ahOk h1 hd, g2⟩, g3, by rw [List.length_cons]; omega⟩
    unfold putAll
    rw [if_pos (by omega)]
    exact g1
theorem replay_agree (k : Nat) (l : List S44) (hl : l.length ≤ 1000000000) (hk : 120000000 + l.length + 100 < k) : ∀ (ts : List ByteArray) (ds : List S26), (∀ t ∈ ts, t.size ≤ 10000000) → (∀ x ∈ ds, GoodR x.f1) → ds.length + 10000000 * ts.length ≤ 100000000 →
    ∃ D r, replayGo k l ds ts = some (D, r) ∧ RGo k 1000 l ds ts D r ∧ (∀ x ∈ D, GoodR x.f1) ∧ D.length ≤ 100000000
  | [], ds, h1, h2, h3 => ⟨ds, 0, by unfold replayGo; rw [if_pos (by omega)], ⟨rfl, rfl⟩, h2, by omega⟩
  | t :: ts, ds, h1, h2, h3 => by
    have ht := h1 t (by simp)
    rw [List.length_cons] at h3
    obtain ⟨r, e, g1, g2, g3, g4⟩ := jread_agree k l t hl ht (by omega)
    unfold replayGo
    rw [g1]
    simp only [Option.bind_some]
    by_cases he : e = 0
    · subst he
      rw [if_pos rfl]
      obtain ⟨ds2, p1, p2, p3, p4⟩ := puts_agree r ds h2 g3 (by omega)
      rw [p1]
      simp only [Option.bind_some]
      obtain ⟨D, r2, q1, q2, q3, q4⟩ := replay_agree k l hl hk ts ds2 (fun x hx => h1 x (List.mem_cons_of_mem _ hx)) p3 (by omega)
      exact ⟨D, r2, q1, ⟨r, 0, g2, .inr ⟨rfl, ds2, p2, q2⟩⟩, q3, q4⟩
    · rw [if_neg he]
      exact ⟨[], e, rfl, ⟨r, e, g2, .inl ⟨he, rfl, rfl⟩⟩, (fun x hx => by cases hx), Nat.zero_le _⟩
theorem replays_true (k : Nat) (l : List S44) (ts : List ByteArray) (hl : l.length ≤ 1000000000) (hk : 120000000 + l.length + 100 < k) (ht : ∀ t ∈ ts, t.size ≤ 10000000) :
    ∃ D r, journal_Replay.f k l (ts.take 8) = some (D, r) ∧ RGo k 1000 l [] (ts.take 8) D r ∧ tithebarnref07_SameAll.f k D D = some true := by
  have h8 : (ts.take 8).length ≤ 8 := by rw [List.length_take]; omega
  obtain ⟨D, r, h1, h2, h3, h4⟩ := replay_agree k l hl hk (ts.take 8) [] (fun t h => ht t (List.mem_of_mem_take h)) (fun x hx => by cases hx) (by simp only [List.length_nil]; omega)
  refine ⟨D, r, ?_, h2, sameAll_f k D (fun x hx => (h3 x hx).1) h4 (by omega)⟩
  unfold journal_Replay.f
  rw [if_pos (by omega)]
  exact h1
end Go.Proofs.YtojcbknclfamhaaGreatDoor.A
