/- DiskLoad's walk. -/
import Derived.Test.YtephblclhojffaaAx0
import Derived.Test.YtephblclhojffaaHLoad
import Derived.Test.YtephblclhojffaaHShared
namespace Go.Proofs.Ytephblclhojffaa.A
open Go.RowKit Go.Proofs.YtephblclhojffaaW.PrintWords Go.Proofs.YtephblclhojffaaW.PrintLast Go.Proofs.YtephblclhojffaaW.PrintMore
open Go.Maps
set_option linter.unusedVariables false
set_option linter.unusedSimpArgs false

theorem up_run {w : World} {b n : Nat} {D : DataW Unit} (h : w.ownsMap Try.prog 9 (plainElem Try.prog 9) b n D) (hn : n < 10) (k x : ByteArray) (hk : k.size ≤ 1048576) (hx : x.size ≤ 1048576) :
    ∃ w', (Instr.mapUpdate 28 (.map (some b)) (.string k) (.string x)).run Try.prog w = .ok () w' ∧ w'.ownsMap Try.prog 9 (plainElem Try.prog 9) b (n + 1) (D.put (.string k.data.toList) (.lit (.string x.data.toList))) ∧ w.grownBy w' (some b) :=
  h.update strKey Try.underlying28 (by unfold maxLen; omega) (Go.WideMaps.keyOf_string_mk Try.underlying9 (by unfold maxLen; omega)) (plainElem_string Try.underlying9 (by unfold maxLen; omega))
theorem below_grown {B : Nat} {w0 w w' : World} {b : Nat} (h : Below B w0 w) (hg : w.grownBy w' (some b)) (hb : B ≤ b) (hs : B ≤ w.heap.size) : Below B w0 w' :=
  h.trans ⟨hg.os, hg.tape, hg.output, hg.size, fun k hk => hg.block k (by omega) (fun e => by cases e; omega)⟩
/-- What Load has made. -/
structure Loaded (w1 w4 : World) (db : Nat) (own : Nat → Prop) (M : DM) (k1 v1 k2 v2 : Bs) (ps : List (Bs × Bs)) : Prop where
  dk : ∃ w3, Below w1.heap.size w1 w3 ∧ AtO false w3.heap.size w3 w4 db own M
  bel : Below w1.heap.size w1 w4
  ok : LoadOk M ps 1048576
  len : ps.length = if k1 = k2 then 1 else 2
  r1 : ∃ v, (k1, v) ∈ ps ∧ (k1 ≠ k2 → v = v1)
  r2 : ∃ v, (k2, v) ∈ ps ∧ (k1 ≠ k2 → v = v2)
theorem loaded_of {w1 w3 w4 : World} {db : Nat} {own : Nat → Prop} {M : DM} {k1 v1 k2 v2 : Bs} {ps : List (Bs × Bs)} {D : DataW Unit} (hP : PairD D k1 v1 k2 v2) (hB : Below w1.heap.size w1 w3) (hA : AtO false w3.heap.size w3 w4 db own M) (hok : LoadOk M ps 1048576)
    (h1 : ∀ p ∈ ps, D.atKey (.string p.1) .nil = .lit (.string p.2) ∧ Maps.has D (.string p.1) = true) (h2 : ∀ kl, Maps.has D kl = true → ∃ p ∈ ps, kl = .string p.1) (hn : (ps.map (·.1)).Nodup) : Loaded w1 w4 db own M k1 v1 k2 v2 ps := by
  have key : ∀ {a : Bs} {v : Bs}, Maps.has D (.string a) = true → (k1 ≠ k2 → D.atKey (.string a) .nil = .lit (.string v)) → ∃ u, (a, u) ∈ ps ∧ (k1 ≠ k2 → u = v) := fun {a v} h hv => by
    obtain ⟨p, hp, e⟩ := h2 _ h
    injection e with e
    refine ⟨p.2, by rw [e]; exact hp, fun hne => ?_⟩
    have := (h1 p hp).1
    rw [← e, hv hne] at this
    injection this with this; injection this with this; exact this.symm
  obtain ⟨u1, m1, e1⟩ := key hP.h1 hP.at1
  obtain ⟨u2, m2, e2⟩ := key hP.h2 hP.at2
  refine ⟨⟨w3, hB, hA⟩, hB.trans (hA.bel.mono hB.size), hok, ?_, ⟨u1, m1, e1⟩, ⟨u2, m2, e2⟩⟩
  have := two_len (a := k1) (b := k2) hn (fun k hk => by
    obtain ⟨p, hp, rfl⟩ := List.mem_map.1 hk
    rcases hP.only _ (h1 p hp).2 with e | e
    · injection e with e; exact .inl e
    · injection e with e; exact .inr e) (List.mem_map.2 ⟨_, m1, rfl⟩) (List.mem_map.2 ⟨_, m2, rfl⟩)
  simpa using this
set_option maxRecDepth 100000 in
set_option maxHeartbeats 16000000 in
theorem DiskLoad.walk (b1 b2 b3 : S24) (B1 B2 B3 : Option Addr) (e1 e2 e3 : Nat) (w : World) (ho1 : OpOk b1) (ho2 : OpOk b2) (hk3 : (Kd.int .i64).C w B3 b3.f4.length b3.f4) (hl3 : b3.f4.length ≤ e3) :
    Calls Try.prog 3 #[.agg #[.int .i64 b1.f0, .string b1.f1, .string b1.f2, .int .i64 b1.f3, .slice B1 b1.f4.length e1], .agg #[.int .i64 b2.f0, .string b2.f1, .string b2.f2, .int .i64 b2.f3, .slice B2 b2.f4.length e2], .agg #[.int .i64 b3.f0, .string b3.f1, .string b3.f2, .int .i64 b3.f3, .slice B3 b3.f4.length e3]] w fun e w' => e = .returned (.bool true) ∧ Below w.heap.size w w' := by
  have hu24 := Try.underlying24
  obtain ⟨x1, hx1⟩ : ∃ x, x = Obj.cells #[.int .i64 b1.f0, .string b1.f1, .string b1.f2, .int .i64 b1.f3, .slice B1 b1.f4.length e1] 24 (0, 0) := ⟨_, rfl⟩
  obtain ⟨x2, hx2⟩ : ∃ x, x = Obj.cells #[.int .i64 b2.f0, .string b2.f1, .string b2.f2, .int .i64 b2.f3, .slice B2 b2.f4.length e2] 24 (0, 0) := ⟨_, rfl⟩
  obtain ⟨x3, hx3⟩ : ∃ x, x = Obj.cells #[.int .i64 b3.f0, .string b3.f1, .string b3.f2, .int .i64 b3.f3, .slice B3 b3.f4.length e3] 24 (0, 0) := ⟨_, rfl⟩
  have hb0 : Below w.heap.size w (w.alloc x1) := (Below.refl w.heap.size w).alloc (Nat.le_refl _) x1
  have hb1 : Below w.heap.size w ((w.alloc x1).alloc x2) := hb0.alloc (by simp) x2
  have hb2 : Below w.heap.size w (((w.alloc x1).alloc x2).alloc x3) := hb1.alloc (by simp; omega) x3
  have HB0 := Aside0.mk hb2
  have HK3 := Aside0.mk (Kd.C_below hk3 hb2)
  have hs1 : (w.alloc x1).heap.size = w.heap.size + 1 := by simp
  have hs2 : ((w.alloc x1).alloc x2).heap.size = w.heap.size + 1 + 1 := by simp
  have HX1 : Aside0 (BoxAt (((w.alloc x1).alloc x2).alloc x3) w.heap.size b1 B1 e1) := ⟨by
    unfold BoxAt; rw [Below.heap_alloc _ _ _ (by omega), Below.heap_alloc _ _ _ (by omega), heap_alloc, hx1]⟩
  have HX2 : Aside0 (BoxAt (((w.alloc x1).alloc x2).alloc x3) (w.heap.size + 1) b2 B2 e2) := ⟨by
    unfold BoxAt; rw [Below.heap_alloc _ _ _ (by omega), ← hs1, heap_alloc, hx2]⟩
  have HX3 : Aside0 (BoxAt (((w.alloc x1).alloc x2).alloc x3) (w.heap.size + 1 + 1) b3 B3 e3) := ⟨by
    unfold BoxAt; rw [← hs2, heap_alloc, hx3]⟩
  have HL3 := Aside0.mk hl3; have HO1 := Aside0.mk ho1; have HO2 := Aside0.mk ho2
  clear hb0 hb1 hb2 hk3 hl3 hs1 hs2 ho1 ho2
  subst hx1 hx2 hx3
  go_enter Try.func3, Try.ntmps3
  go_wp2_with fail
  generalize ((w.alloc (Obj.cells #[.int .i64 b1.f0, .string b1.f1, .string b1.f2, .int .i64 b1.f3, .slice B1 b1.f4.length e1] 24 (0, 0))).alloc (Obj.cells #[.int .i64 b2.f0, .string b2.f1, .string b2.f2, .int .i64 b2.f3, .slice B2 b2.f4.length e2] 24 (0, 0))).alloc (Obj.cells #[.int .i64 b3.f0, .string b3.f1, .string b3.f2, .int .i64 b3.f3, .slice B3 b3.f4.length e3] 24 (0, 0)) = w0 at *
  refine (lives.calls _).mono ?_
  rintro e w1 ⟨rfl, hb1⟩
  have HB1 := Aside0.mk hb1
  have hX1 := HX1.out.below hb1
  have hX2 := HX2.out.below hb1
  have y1 := cells_of hX1 1 rfl
  have y2 := cells_of hX1 2 rfl
  have z1 := cells_of hX2 1 rfl
  have z2 := cells_of hX2 2 rfl
  have HY1 := Aside0.mk hX1; have HY2 := Aside0.mk hX2; have HY3 := Aside0.mk (HX3.out.below hb1)
  have HBW := Aside0.mk (Below.refl w1.heap.size w1)
  have HKK := Aside0.mk (Kd.C_below HK3.out hb1)
  clear hb1 hX1 hX2
  go_wp2_with fail
  go_region_held3 (fun w' => w'.cell? ⟨w.heap.size, 1, none⟩ = some (.string b1.f1) ∧ w'.cell? ⟨w.heap.size, 2, none⟩ = some (.string b1.f2) ∧ w'.cell? ⟨w.heap.size + 1, 1, none⟩ = some (.string b2.f1) ∧ w'.cell? ⟨w.heap.size + 1, 2, none⟩ = some (.string b2.f2) ∧ Aside0 (Below w1.heap.size w1 w'))
     ((repeat' apply And.intro) <;> (first | assumption | exact AB_drew (by assumption) | exact pw_cell_below HB2.out (by assumption) | exact HB2 | go_keep))
     (first
      | (rw [run_makeMap]; (have hm : (w1.drew.alloc (.map #[] 0)).ownsMap (H := Unit) Try.prog 9 (plainElem Try.prog 9) w1.heap.size 0 (.map []) := World.ownsMap_made (H := Unit) w1.drew Try.prog 9 (plainElem Try.prog 9)); (have hb' : Below w1.heap.size w1.drew (w1.drew.alloc (.map #[] 0)) := (Below.refl w1.drew.heap.size w1.drew).alloc (Nat.le_refl _) _); (have HB2 := Aside0.mk ((below_drew HBW.out).trans hb')); generalize w1.drew.alloc (.map #[] 0) = w2 at *; (have HM2 := Aside0.mk hm); clear hm hb'; go_simp)
      | (obtain ⟨w3, hrun, hm3, hg3⟩ := up_run HM2.out (by omega) b1.f1 b1.f2 HO1.out.s1 HO1.out.s2; rw [hrun]; (have HB3 := Aside0.mk (below_grown HB2.out hg3 (Nat.le_refl _) HB2.out.size)); clear HB2 HM2; (have HB2 := HB3); (have HM2 := Aside0.mk hm3); clear HB3 hm3 hg3 hrun; go_simp)
      | (obtain ⟨w3, hrun, hm3, hg3⟩ := up_run HM2.out (by omega) b2.f1 b2.f2 HO2.out.s1 HO2.out.s2; rw [hrun]; (have HB3 := Aside0.mk (below_grown HB2.out hg3 (Nat.le_refl _) HB2.out.size)); clear HB2 HM2; (have HB2 := HB3); (have HM2 := Aside0.mk hm3); clear HB3 hm3 hg3 hrun; go_simp)
      | (go_at_call 12; (obtain ⟨D, hD, hP⟩ : ∃ D, w3.ownsMap Try.prog 9 (plainElem Try.prog 9) w1.heap.size 2 D ∧ PairD D b1.f1.data.toList b1.f2.data.toList b2.f1.data.toList b2.f2.data.toList := by first | exact ⟨_, HM2.out, pair_of _ _ _ _⟩ | exact ⟨_, HM2.out, (pair_of _ _ _ _).symm⟩); refine (Load.calls w3 w1.heap.size 2 D hD (by omega) (fun kl s h => by rcases hP.val kl s h with rfl | rfl; rw [Array.length_toList]; exact HO1.out.s2; rw [Array.length_toList]; exact HO2.out.s2)).mono ?_; rintro e w4 ⟨db, own, M, ps, rfl, hA, hok, hs1, hs2, hnd, hlen⟩; (have HLD := Aside0.mk (loaded_of hP HB2.out hA hok hs1 hs2 hnd)); clear hD hP hA hok hs1 hs2 hnd hlen HB2 HM2; (have HB2 := Aside0.mk HLD.out.bel)))
  all_goals (
    have hY3 := HY3.out.below HLD.out.bel
    have y3 := cells_of hY3 3 rfl
    have y4 := cells_of hY3 4 rfl
    obtain ⟨w3, hbw3, hA⟩ := HLD.out.dk
    have hps : ps.length ≤ 1000 := by rw [HLD.out.len]; split <;> omega
    have hcr := hA.crashL HLD.out.ok hps b3.f3 B3 e3 b3.f4 (Kd.C_below HKK.out hbw3) HL3.out
    have HBW3 := Aside0.mk hbw3
    have HPS := Aside0.mk hps
    clear hA hbw3 hY3 hps
    go_wp2_with fail
    refine hcr.mono ?_
    rintro e w5 ⟨rfl, hm⟩
    obtain ⟨own', hA5, -, -⟩ := hm
    have HA5 := Aside0.mk hA5
    have HB5 := Aside0.mk (HBW3.out.trans (hA5.bel.mono HBW3.out.size))
    clear hcr hA5 y3 y4
    have hY1 := HY1.out.below HB5.out
    have hY2 := HY2.out.below HB5.out
    have z1 := cells_of hY2 1 rfl
    have z2 := cells_of hY2 2 rfl
    have y1 := cells_of hY1 1 rfl
    have y2 := cells_of hY1 2 rfl
    clear hY1 hY2
    obtain ⟨v1, hv1, hw1⟩ := HLD.out.r1
    obtain ⟨v2, hv2, hw2⟩ := HLD.out.r2
    obtain ⟨hdir, hread⟩ := HLD.out.ok.crash b3.f3 b3.f4
    have hfit := HLD.out.ok.crashFits b3.f3 b3.f4
    have hr2 := HA5.out.at_.read hfit b2.f1 (by have := HO2.out.s1; unfold maxLen; omega)
    have hr1 := HA5.out.at_.read hfit b1.f1 (by have := HO1.out.s1; unfold maxLen; omega)
    rw [hread _ hv2] at hr2
    rw [hread _ hv1] at hr1
    have hnm := HA5.out.at_.names (by rw [hdir, HLD.out.ok.len]; have := HPS.out; omega)
    have hln : (namesF (crashF M b3.f3 b3.f4)).length = ps.length := by rw [namesF_dir hdir, ← HLD.out.ok.len]; simp [namesF]
    rw [hln, HLD.out.len] at hnm
    simp only at hr1 hr2
    have HNM := Aside0.mk hnm
    have HW1 := Aside0.mk hw1; have HW2 := Aside0.mk hw2
    clear hfit hv1 hv2 hread hdir hnm hln hw1 hw2
    go_wp2_with fail
    refine hr2.mono ?_
    rintro e w6 ⟨rfl, rfl⟩
    go_wp2_with fail
    refine hr1.mono ?_
    rintro e w7 ⟨rfl, rfl⟩
    clear hr1 hr2
    by_cases hk : b1.f1.data.toList = b2.f1.data.toList
    · have hb : (b1.f1.toList == b2.f1.toList) = true := by rw [ByteArray.toList_eq, ByteArray.toList_eq]; simpa using hk
      have hnm := HNM.out
      rw [if_pos hk] at hnm
      clear hk
      go_wp2_with fail
      refine hnm.mono ?_
      rintro e w8 ⟨⟨A8, c8, rfl, -, -⟩, hA8, -⟩
      have HA8 := Aside0.mk hA8.bel
      clear hA8 hnm
      go_wp2
      go_ret
      exact ⟨rfl, (HB0.out.trans (HB1.out.mono HB0.out.size)).trans ((HBW3.out.trans (HA8.out.mono HBW3.out.size)).mono (Nat.le_trans HB0.out.size HB1.out.size))⟩
    · have hb : (b1.f1.toList == b2.f1.toList) = false := by rw [ByteArray.toList_eq, ByteArray.toList_eq]; simpa using hk
      have hnm := HNM.out
      rw [if_neg hk] at hnm
      obtain rfl := HW1.out hk
      obtain rfl := HW2.out hk
      clear hk
      rw [bsS_back, bsS_back]
      have q1 : (b1.f2.toList == b1.f2.toList) = true := by simp
      have q2 : (b2.f2.toList == b2.f2.toList) = true := by simp
      go_wp2_with fail
      refine hnm.mono ?_
      rintro e w8 ⟨⟨A8, c8, rfl, -, -⟩, hA8, hb8⟩
      have HA8 := Aside0.mk hA8.bel
      have x2 := pw_cell_below hb8 y2
      have x4 := pw_cell_below hb8 z2
      clear hA8 hnm hb8 y1 y2 z1 z2
      go_wp2
      go_ret
      exact ⟨rfl, (HB0.out.trans (HB1.out.mono HB0.out.size)).trans ((HBW3.out.trans (HA8.out.mono HBW3.out.size)).mono (Nat.le_trans HB0.out.size HB1.out.size))⟩)
end Go.Proofs.Ytephblclhojffaa.A
