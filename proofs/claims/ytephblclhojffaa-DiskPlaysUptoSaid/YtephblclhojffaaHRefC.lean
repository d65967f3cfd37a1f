/- The reference's change: the directory is another, and a change is kept. -/
import Derived.Test.YtephblclhojffaaAx0
import Derived.Test.YtephblclhojffaaHRefA
import Derived.Deep.RegionLaw
namespace Go.Proofs.Ytephblclhojffaa.A
open Go.RowKit Go.Proofs.YtephblclhojffaaW.PrintWords Go.Proofs.YtephblclhojffaaW.PrintLast Go.Proofs.YtephblclhojffaaW.PrintMore
set_option linter.unusedVariables false
set_option linter.unusedSimpArgs false

theorem info90 : (Try.prog.info? 90).map (fun i => (i.zero, i.size, i.bytes)) = some (some (.agg #[(.string ⟨#[]⟩), (.string ⟨#[]⟩), (.int .i64 0)]), 3, 40) := by kernel_rfl
theorem cell_far (w : World) (b o : Nat) (v : Value) {k : Nat} (hk : k ≠ b) (i : Nat) : (w.setCell ⟨b, o, none⟩ v).cell? ⟨k, i, none⟩ = w.cell? ⟨k, i, none⟩ := by
  have := set_other w b o v hk
  simp [World.cell?, this]
theorem cell_of_below {w : World} {b o : Nat} {x : Obj} (h : b < w.heap.size) : (w.alloc x).cell? ⟨b, o, none⟩ = w.cell? ⟨b, o, none⟩ := by
  have := Below.heap_alloc w x b h
  simp only [World.cell?, this]
theorem rows_ne {α β : Type} {d1 : Kd α} {d2 : Kd β} {e1 e2 b1 b2 : Nat} {ok1 ok2 : Nat → Prop} {w : World} {v1 v2 : Value} {x1 : List α} {x2 : List β} (h1 : d1.R e1 w b1 ok1 v1 x1) (h2 : d2.R e2 w b2 ok2 v2 x2) (he : e1 ≠ e2) : ∀ k, v1.ownBlock = some k → some k ≠ v2.ownBlock := fun k hk e => by
  obtain ⟨i1, o1⟩ := Kd.R_own h1
  obtain ⟨i2, o2⟩ := Kd.R_own h2
  obtain ⟨c1, a1⟩ := own_typed o1 k hk
  obtain ⟨c2, a2⟩ := own_typed o2 k e.symm
  rw [a1] at a2
  simp at a2
  exact he a2.2
section
variable {w w' : World} {own own' S : Nat → Prop} {rb : Nat} {fv dv sv cv : Value} {M M' : DM}
/-- Whatever the bounds of a disk are counted on. -/
structure BdR (M : DM) : Prop where
  ri : Rising M.dir
  dl : M.dir.length < 100000
  dn : NamesLe M.dir
  dv : ∀ p ∈ M.dir, p.2 < 4611686018427387904
  cl : M.chg.length < 100000
set_option maxRecDepth 100000 in
set_option maxHeartbeats 8000000 in
theorem rchange.calls (h : RefR w own rb fv dv sv cv M) (hB : BdR M) (c : Chg) (hc : ChgR2 c) :
    Calls Try.prog 65 #[.pointer (some ⟨rb, 0, none⟩), .agg #[.string (c90 c).f0, .string (c90 c).f1, .int .i64 (c90 c).f2]] w fun e w' => e = .returned (.tuple #[]) ∧ WentR w w' own rb { M with dir := c.app M.dir, chg := M.chg ++ [c] } := by
  have hu90 := Try.underlying90
  obtain ⟨x, hx⟩ : ∃ x, x = Obj.cells #[.string (c90 c).f0, .string (c90 c).f1, .int .i64 (c90 c).f2] 90 (0, 0) := ⟨_, rfl⟩
  have hb0 : Below w.heap.size w (w.alloc x) := (Below.refl _ w).alloc (Nat.le_refl _) _
  have hbx : (w.alloc x).heap[w.heap.size]? = some (Obj.cells #[.string (c90 c).f0, .string (c90 c).f1, .int .i64 (c90 c).f2] 90 (0, 0)) := by rw [← hx]; exact heap_alloc w x
  have hs0 : (w.alloc x).heap.size = w.heap.size + 1 := by simp
  have h0 := h.below hb0
  have hlt := h.lt rb h.orb
  obtain ⟨A1, c1, rfl, -, -⟩ := Kd.R_reads h.dir
  obtain ⟨A3, c3, hcv, -, -⟩ := Kd.R_reads h.chg
  rw [List.length_map] at hcv
  subst hcv
  have y0 := cells_of hbx 0 rfl
  have y1 := cells_of hbx 1 rfl
  have y2 := cells_of hbx 2 rfl
  simp only [List.getElem_toArray, List.getElem_cons_zero, List.getElem_cons_succ] at y0 y1 y2
  have hap := fun W (hb : Below (w.alloc x).heap.size (w.alloc x) W) => rApply.calls hB.ri hB.dl hB.dn c hc hB.dv W (Kd.R_below h0.dir hb)
  have k1 := cells_of h0.blk 1 rfl
  have k3 := cells_of h0.blk 3 rfl
  have hne : w.heap.size ≠ rb := by omega
  have H0 := Aside0.mk h0; have HNE := Aside0.mk hne; have HB0 := Aside0.mk hb0; have HS0 := Aside0.mk hs0; have HCL := Aside0.mk hB.cl; have HLT := Aside0.mk hlt
  have HOR := Aside0.mk h.orb; have HL := Aside0.mk h.lt; have HCH := Aside0.mk h.chg
  have HM1 := Aside0.mk (show (c90 c) = ⟨(c90 c).f0, (c90 c).f1, (c90 c).f2⟩ from rfl)
  obtain ⟨s90, hs90⟩ : ∃ s, s = c90 c := ⟨_, rfl⟩
  have HS90 := Aside0.mk hs90
  rw [← hs90] at hx y0 y1 y2 hap ⊢
  have HAP := Aside0.mk hap
  clear h h0 hap hne hb0 hs0 hbx hB hc hlt hs90 HM1
  subst hx
  go_enter Try.func65, Try.ntmps65
  go_wp2_with fail
  generalize w.alloc (.cells #[.string s90.f0, .string s90.f1, .int .i64 s90.f2] 90 (0, 0)) = w0 at *
  have HBZ := Aside0.mk (Below.refl w0.heap.size w0)
  go_region_with
    (first
      | (go_at_call 67; refine (HAP.out _ (below_drew HBZ.out)).mono ?_; rintro e w2 ⟨v2, rfl, hr2, hb2⟩; (have HB2 := Aside0.mk ((below_drew HBZ.out).trans hb2)); (have HR2 := Aside0.mk hr2); (obtain ⟨A2, c2, rfl, -, -⟩ := Kd.R_reads hr2); (have hk1 := cells_of (H0.out.below HB2.out).blk 1 rfl); (have hf1 := free_of (H0.out.below HB2.out).blk 1); clear hr2 hb2))
  all_goals (
    have r2 := H0.out.below HB2.out
    have hsz2 := Nat.le_trans HB0.out.size HB2.out.size
    have hblk3 : (w2.setCell ⟨rb, 1, none⟩ (.slice A2 (dirS (Chg.app M.dir c)).length c2)).heap[rb]? = some (.cells #[fv, .slice A2 (dirS (Chg.app M.dir c)).length c2, sv, .slice A3 M.chg.length c3, .int .i64 M.space, .int .i64 (negR M.halt), .int .i64 (negR M.deny), .int .i64 M.calls] 75 (0, 0)) := heap_set r2.blk 1 (.slice A2 (dirS (Chg.app M.dir c)).length c2)
    have hsz3 : (w2.setCell ⟨rb, 1, none⟩ (.slice A2 (dirS (Chg.app M.dir c)).length c2)).heap.size = w2.heap.size := by simp [World.setCell]
    have rf := Kd.R_set r2.files r2.blk (by decide) 1 (.slice A2 (dirS (Chg.app M.dir c)).length c2)
    have rd := Kd.R_set HR2.out r2.blk (by decide) 1 (.slice A2 (dirS (Chg.app M.dir c)).length c2)
    have rs := Kd.R_set r2.sdir r2.blk (by decide) 1 (.slice A2 (dirS (Chg.app M.dir c)).length c2)
    have rc := Kd.R_set r2.chg r2.blk (by decide) 1 (.slice A2 (dirS (Chg.app M.dir c)).length c2)
    have HO3 := Aside0.mk ((Only.of_below (HB0.out.trans (HB2.out.mono HB0.out.size)) own).trans (Only.setCell (w := w2) (S := own) (a := ⟨rb, 1, none⟩) HOR.out (.slice A2 (dirS (Chg.app M.dir c)).length c2)) (fun _ _ h => h))
    have p0 := (cell_far w2 rb 1 (.slice A2 (dirS (Chg.app M.dir c)).length c2) HNE.out 0).trans (pw_cell_below HB2.out y0)
    have p1 := (cell_far w2 rb 1 (.slice A2 (dirS (Chg.app M.dir c)).length c2) HNE.out 1).trans (pw_cell_below HB2.out y1)
    have p2 := (cell_far w2 rb 1 (.slice A2 (dirS (Chg.app M.dir c)).length c2) HNE.out 2).trans (pw_cell_below HB2.out y2)
    rw [← hsz3] at hsz2
    generalize w2.setCell ⟨rb, 1, none⟩ (.slice A2 (dirS (Chg.app M.dir c)).length c2) = w3 at *
    have k3' := cells_of hblk3 3 rfl
    have hrl3 : rb < w3.heap.size := (Array.getElem?_eq_some_iff.1 hblk3).1
    have k3a : (w3.alloc (Obj.cells #[.string s90.f0, .string s90.f1, .int .i64 s90.f2] 90 (0, 0))).cell? ⟨rb, 3, none⟩ = some (.slice A3 M.chg.length c3) := (cell_of_below hrl3).trans k3'
    have hrn3 : ¬ rb = w3.heap.size := by omega
    have hrm3 : ¬ w3.heap.size = rb := by omega
    have HF3 := Aside0.mk rf; have HD3 := Aside0.mk rd; have HSD3 := Aside0.mk rs; have HC3 := Aside0.mk (Kd.R_mono rc (fun k hk => (Or.inl hk : own k ∨ w.heap.size ≤ k))); have HBLK3 := Aside0.mk hblk3; have HSZ3 := Aside0.mk hsz2
    have HNB : Aside0 (some w.heap.size ≠ (Value.slice A3 M.chg.length c3).ownBlock) := ⟨fun e => by have := HL.out _ (HCH.out.1 _ e.symm); omega⟩
    have HNR : Aside0 (some rb ≠ (Value.slice A3 M.chg.length c3).ownBlock) := ⟨Kd.R_ne rc hblk3 (by decide)⟩
    clear r2 hsz2 hblk3 hsz3 rf rd rs rc hk1 hf1 y0 y1 y2 k1 k3
    go_wp2_with fail
    go_region_law
      (first
        | (rw [show (w3.alloc (Obj.cells #[.string s90.f0, .string s90.f1, .int .i64 s90.f2] 90 (0, 0))).drew = w3.drew.alloc (Obj.cells #[.string s90.f0, .string s90.f1, .int .i64 s90.f2] 90 (0, 0)) from rfl]; refine Kd.R_append_step k90 (w0 := w3.drew) 0 (by rfl) (.tmp 17) (.tmp 19) 73 90 (.agg #[(.string ⟨#[]⟩), (.string ⟨#[]⟩), (.int .i64 0)]) 40 rfl Try.underlying73 info90 rfl (by decide) (by omega) (.slice A3 M.chg.length c3) (List.map c90 M.chg) s90 [.string s90.f0, .string s90.f1, .int .i64 s90.f2] (fun k => own k ∨ w.heap.size ≤ k) (fun _ => False) rfl rfl (k90_mkM _ _ _ _) (fun _ h => h.elim) (fun k hk => .inr (Nat.le_trans HSZ3.out hk)) (Kd.R_drew HC3.out) (Below.refl _ _) (Nat.zero_le _) (by rw [List.length_map]; have := HCL.out; omega) ?_; intro v4 w4 hr4 hb4 hg4 hat4; (have HR4 := Aside0.mk hr4); (have HG4 := Aside0.mk hg4); (have HQ4 := Aside0.mk (And.intro (hg4.cell (show w3.drew.cell? ⟨w.heap.size, 0, none⟩ = _ from p0) HNB.out) (And.intro (hg4.cell (show w3.drew.cell? ⟨w.heap.size, 1, none⟩ = _ from p1) HNB.out) (hg4.cell (show w3.drew.cell? ⟨w.heap.size, 2, none⟩ = _ from p2) HNB.out)))); (obtain ⟨A4, c4, hv4, -, -⟩ := Kd.R_reads hr4); (rw [List.length_append, List.length_map, List.length_singleton] at hv4); subst hv4; (have hb4' := (hg4.block rb (Array.getElem?_eq_some_iff.1 HBLK3.out).1 HNR.out).trans HBLK3.out); (have HB4' := Aside0.mk hb4'); (have hk3 := cells_of hb4' 3 rfl); (have hf3 := free_of hb4' 3); clear hr4 hb4 hg4 hat4 hb4'))
    all_goals (
      have g3 := Kd.R_grown2 (Kd.R_drew HF3.out) rfl HG4.out (rows_ne (Kd.R_drew HC3.out) (Kd.R_drew HF3.out) (by decide))
      have g1 := Kd.R_grown2 (Kd.R_drew HD3.out) rfl HG4.out (rows_ne (Kd.R_drew HC3.out) (Kd.R_drew HD3.out) (by decide))
      have g2 := Kd.R_grown2 (Kd.R_drew HSD3.out) rfl HG4.out (rows_ne (Kd.R_drew HC3.out) (Kd.R_drew HSD3.out) (by decide))
      have s3 := Kd.R_set g3 HB4'.out (by decide) 3 (.slice A4 (M.chg.length + 1) c4)
      have s1 := Kd.R_set g1 HB4'.out (by decide) 3 (.slice A4 (M.chg.length + 1) c4)
      have s2 := Kd.R_set g2 HB4'.out (by decide) 3 (.slice A4 (M.chg.length + 1) c4)
      have s4 := Kd.R_set HR4.out HB4'.out (by decide) 3 (.slice A4 (M.chg.length + 1) c4)
      have hb5 := heap_set HB4'.out 3 (.slice A4 (M.chg.length + 1) c4)
      have hw0 : w.heap.size ≤ w0.drew.heap.size := HB0.out.size
      have HW : Aside0 (WentR w (w4.setCell ⟨rb, 3, none⟩ (.slice A4 (M.chg.length + 1) c4)) own rb { M with dir := Chg.app M.dir c, chg := M.chg ++ [c] }) := ⟨by
        refine ⟨fun k => (own k ∨ w.heap.size ≤ k) ∧ k < (w4.setCell ⟨rb, 3, none⟩ (.slice A4 (M.chg.length + 1) c4)).heap.size, ⟨_, _, _, _, ⟨⟨.inl HOR.out, (Array.getElem?_eq_some_iff.1 hb5).1⟩, hb5, ?_, ?_, ?_, ?_, fun k hk => hk.2⟩⟩, fun k hk => hk.1, ?_⟩
        · exact Kd.R_mono (Kd.R_bound s3) (fun k hk => ⟨.inl hk.1, hk.2.2.1⟩)
        · exact Kd.R_mono (Kd.R_bound s1) (fun k hk => ⟨hk.1.imp id (fun e => Nat.le_trans hw0 e), hk.2.2.1⟩)
        · exact Kd.R_mono (Kd.R_bound s2) (fun k hk => ⟨.inl hk.1, hk.2.2.1⟩)
        · rw [List.map_append, List.map_singleton, ← HS90.out]
          exact Kd.R_mono (Kd.R_bound s4) (fun k hk => ⟨hk.1, hk.2.2.1⟩)
        · refine (HO3.out.trans ?_ (fun _ _ h => h)).trans (Only.setCell (w := w4) (S := own) (a := ⟨rb, 3, none⟩) HOR.out (.slice A4 (M.chg.length + 1) c4)) (fun _ _ h => h)
          exact (Only.of_below (below_drew (Below.refl w3.heap.size w3)) own).trans (Only.of_grown HG4.out (fun k hk => HCH.out.1 k hk)) (fun _ _ h => h)⟩
      clear g1 g2 g3 s1 s2 s3 s4 hb5 hw0 hk3 hf3
      go_end0
      exact ⟨rfl, HW.out⟩))
end
end Go.Proofs.Ytephblclhojffaa.A
