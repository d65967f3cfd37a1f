/- change: the directory is changed, and the change is kept. -/
import Derived.Test.YtephblclhojffaaAx0
import Derived.Test.YtephblclhojffaaHClos
namespace Go.Proofs.Ytephblclhojffaa.A
open Go.RowKit Go.Proofs.YtephblclhojffaaW.PrintWords Go.Proofs.YtephblclhojffaaW.PrintLast Go.Proofs.YtephblclhojffaaW.PrintMore
open Go.Maps
set_option linter.unusedVariables false
set_option linter.unusedSimpArgs false

section
variable {pl : Bool} {w w' : World} {own own' : Nat → Prop} {fb : List Nat} {db dm sm : Nat} {chs : Value} {sl xs : List Value} {M : DM}
theorem DiskR.dirSet (h : DiskR pl w own db dm sm chs fb sl xs M) (hk : ∀ k, own k → k ≠ dm → w'.heap[k]? = w.heap[k]?) (hs : w.heap.size ≤ w'.heap.size) {d : Dir} (hM : MapR w' own fb dm d) : DiskR pl w' own db dm sm chs fb sl xs { M with dir := d } :=
  have far : ∀ k x t fr, own k → w.heap[k]? = some (.cells x t fr) → w'.heap[k]? = w.heap[k]? := fun k x t fr h1 h2 => hk k h1 (ne_map h2 h.dirR.owns)
  ⟨h.odb, (far _ _ _ _ h.odb h.bdb).trans h.bdb, h.files.kept (fun k x t fr h1 _ h3 => far k x t fr h1 h3) (fun _ h => h), hM, h.sdirR.kept (hk _ h.sdirR.ow h.ne.symm) (fun _ h => h), h.ne, h.chgR.kept (fun k x t fr h1 _ h3 => far k x t fr h1 h3) (fun _ h => h) (fun i hi => ⟨rfl, hi⟩), fun k hk => Nat.lt_of_lt_of_le (h.lt k hk) hs⟩
theorem DiskR.chgSet (h : DiskR pl w own db dm sm chs fb sl xs M) (ho : ∀ k, own k → own' k) (hlt : ∀ k, own' k → k < w'.heap.size) (hk : ∀ k, own k → k ≠ db → chs.ownBlock ≠ some k → w'.heap[k]? = w.heap[k]?) {chs' : Value} {xs' : List Value} {cs' : List Chg}
    (hb' : w'.heap[db]? = some (.cells #[.int .i64 M.space, .map (some dm), .map (some sm), chs', .int .i64 M.calls, .int .i64 M.halt, .int .i64 M.deny] 64 (0, 0))) (hC : ChgR w' own' fb chs' xs' cs') : DiskR pl w' own' db dm sm chs' fb sl xs' { M with chg := cs' } :=
  have far : ∀ k x t fr, own k → t ≠ 64 → t ≠ 66 → w.heap[k]? = some (.cells x t fr) → w'.heap[k]? = w.heap[k]? := fun k x t fr h1 h2 h3 h4 =>
    hk k h1 (ne_shape h4 h.bdb h2) (fun e => by obtain ⟨cur, hc⟩ := row_block h.chgR.row e; exact ne_shape h4 hc h3 rfl)
  have farm : ∀ k n (D : DataW Unit), own k → w.ownsMap Try.prog 9 ptrElem k n D → w'.heap[k]? = w.heap[k]? := fun k n D h1 h2 =>
    hk k h1 (ne_map h.bdb h2).symm (fun e => by obtain ⟨cur, hc⟩ := row_block h.chgR.row e; exact ne_map hc h2 rfl)
  ⟨ho _ h.odb, hb', h.files.kept (fun k x t fr h1 h2 h3 => far k x t fr h1 (by rcases h2 with rfl | rfl <;> decide) (by rcases h2 with rfl | rfl <;> decide) h3) ho, h.dirR.kept (farm _ _ _ h.dirR.ow h.dirR.owns) ho, h.sdirR.kept (farm _ _ _ h.sdirR.ow h.sdirR.owns) ho, h.ne, hC, hlt⟩
theorem info66 : (Try.prog.info? 66).map (fun i => (i.zero, i.size, i.bytes)) = some (some .nilFunc, 1, 8) := by kernel_rfl
set_option maxHeartbeats 2000000 in
theorem change.calls (h : DiskR pl w own db dm sm chs fb sl xs M) (v : Value) (c : Chg) (hC : ClosR w own fb v c) (hok : c.ok fb.length M.dir) (hdl : M.dir.length < 1048576) (hcl : M.chg.length < 1048576) :
    Calls Try.prog 54 #[.pointer (some ⟨db, 0, none⟩), v] w fun e w' => e = .returned (.int .i64 0) ∧ Went pl w w' own db { M with dir := c.app M.dir, chg := M.chg ++ [c] } := by
  obtain ⟨g, lb, hv, eg, hrun⟩ := clos_run hC hok h.dirR (by unfold maxLen; omega)
  have HC := Aside0.mk hC
  subst hv
  have H := Aside0.mk h
  have HCL := Aside0.mk hcl
  have c1 := cells_of h.bdb 1 rfl
  clear h hok hdl hcl hC
  go_enter Try.func54, Try.ntmps54
  have HD1 := Aside0.mk (fun (w1 : World) (hM1 : MapR w1 own fb dm (c.app M.dir)) (hO1 : Only w w1 (· = dm)) => H.out.dirSet (fun k hk hne => hO1.block k (H.out.lt k hk) hne) hO1.size hM1)
  have HC1 := Aside0.mk (fun (w1 : World) (hO1 : Only w w1 (· = dm)) => HC.out.kept (w' := w1) (own' := own) (fb' := fb) (fun k x t fr h1 h2 h3 => hO1.block k (H.out.lt k h1) (ne_map h3 H.out.dirR.owns)) (fun _ h => h) (fun i hi => ⟨rfl, hi⟩))
  go_wp2_with (first
    | (go_at_fn g; refine hrun.mono ?_; rintro e w1 ⟨rfl, hM1, hO1⟩; (have H1 := Aside0.mk (HD1.out w1 hM1 hO1)); (have HCC := Aside0.mk (HC1.out w1 hO1)); (have HO := Aside0.mk hO1); (have d3 : w1.cell? ⟨db, 3, none⟩ = some chs := cells_of H1.out.bdb 3 rfl); clear hM1 hO1)
    | (at_builtin; refine print_append (w0 := w1) 0 rfl _ _ 62 66 .nilFunc 8 rfl Try.underlying62 info66 rfl (by omega) chs xs (.func (.func g) #[] lb) rfl rfl rfl H1.out.chgR.row (Below.refl _ _) (Nat.zero_le _) (by have h1 := H1.out.chgR.len; have h2 := HCL.out; simp only at h1; omega) ?_))
  intro v1 w2 hrow2 _ hg2 hat
  replace hrow2 : w2.ownsRow 0 66 1 v1 (xs ++ [Value.func (.func g) #[] lb]).length (xs ++ [Value.func (.func g) #[] lb]) := by rw [List.length_append]; exact hrow2
  have hcell2 : ∀ k, own k → chs.ownBlock ≠ some k → w2.heap[k]? = w1.heap[k]? := fun k h1 h2 => hg2.block k (H1.out.lt k h1) (fun e => h2 e.symm)
  have hdb : chs.ownBlock ≠ some db := fun e => by obtain ⟨cur, hc⟩ := row_block H1.out.chgR.row e; exact ne_shape hc H1.out.bdb (by decide) rfl
  have hb2 := (hcell2 db H1.out.odb hdb).trans H1.out.bdb
  have e3 := cells_of hb2 3 rfl
  have f3 := free_of hb2 3
  have hlt2 : ∀ k, grownOwn own w1 w2 k → k < (w2.setCell ⟨db, 3, none⟩ v1).heap.size := fun k hk => by
    have hsz : (w2.setCell ⟨db, 3, none⟩ v1).heap.size = w2.heap.size := by simp [World.setCell]
    rw [hsz]
    rcases hk with hk | hk
    · exact Nat.lt_of_lt_of_le (H1.out.lt k hk) hg2.size
    · exact hk.2
  have hkk : ∀ k, k ≠ db → (w2.setCell ⟨db, 3, none⟩ v1).heap[k]? = w2.heap[k]? := fun k hk => Below.heap_setCell _ _ _ _ hk
  have hnew : ∀ g', v1.ownBlock = some g' → grownOwn own w1 w2 g' := fun g' hg' => by
    rcases hat with h | ⟨bb, h, hb⟩
    · exact .inl (H1.out.chgR.ow g' (h ▸ hg'))
    · have e : bb = g' := Option.some.inj (h.symm.trans hg')
      rw [← e]
      exact .inr ⟨hb, (hrow2.lt bb h).2⟩
  have hrow3 : (w2.setCell ⟨db, 3, none⟩ v1).ownsRow 0 66 1 v1 (xs ++ [Value.func (.func g) #[] lb]).length (xs ++ [Value.func (.func g) #[] lb]) := row_kept hrow2 (fun g' hg' => hkk g' (by obtain ⟨cur, hc⟩ := row_block hrow2 hg'; exact ne_shape hc hb2 (by decide)))
  have hcl3 : ∀ (i : Nat) v0 c0, (xs ++ [Value.func (.func g) #[] lb])[i]? = some v0 → (M.chg ++ [c])[i]? = some c0 → ClosR (w2.setCell ⟨db, 3, none⟩ v1) (grownOwn own w1 w2) fb v0 c0 := by
    have keep : ∀ v0 c0, ClosR w1 own fb v0 c0 → ClosR (w2.setCell ⟨db, 3, none⟩ v1) (grownOwn own w1 w2) fb v0 c0 := fun v0 c0 h => h.kept (fun k x t fr h1 h2 h3 => by
      refine (hkk k (ne_shape h3 H1.out.bdb (by rcases h2 with rfl | rfl <;> decide))).trans (hcell2 k h1 (fun e => ?_))
      obtain ⟨cur, hc⟩ := row_block H1.out.chgR.row e
      exact ne_shape h3 hc (by rcases h2 with rfl | rfl <;> decide) rfl) (fun _ h => .inl h) (fun i hi => ⟨rfl, hi⟩)
    intro i v0 c0 h1 h2
    have hl := H1.out.chgR.len
    simp only at hl
    by_cases hi : i < xs.length
    · rw [List.getElem?_append_left hi] at h1
      rw [List.getElem?_append_left (by omega)] at h2
      exact keep _ _ (H1.out.chgR.each i v0 c0 h1 h2)
    · rw [List.getElem?_append_right (by omega)] at h1
      rw [List.getElem?_append_right (by omega), ← hl] at h2
      have hi0 : i - xs.length = 0 := by have := (List.getElem?_eq_some_iff.1 h1).1; simp at this; omega
      rw [hi0] at h1 h2
      simp only [List.getElem?_cons_zero, Option.some.injEq] at h1 h2
      subst h1; subst h2
      exact keep _ _ HCC.out
  have hfin := H1.out.chgSet (own' := grownOwn own w1 w2) (w' := w2.setCell ⟨db, 3, none⟩ v1) (fun _ h => .inl h) hlt2 (fun k h1 h2 h3 => (hkk k h2).trans (hcell2 k h1 h3)) (chs' := v1) (xs' := xs ++ [Value.func (.func g) #[] lb]) (cs' := M.chg ++ [c]) (heap_set hb2 3 v1)
    ⟨hrow3, hnew, by have := H1.out.chgR.len; simp only at this; simp [this], hcl3⟩
  have HO2 := Aside0.mk (((HO.out.mono (S' := own) (fun k _ e => e ▸ H1.out.dirR.ow)).trans (Only.of_grown (S := own) hg2 (fun k hk => H1.out.chgR.ow k hk)) (fun _ _ h => h)).trans (Only.setCell (S := own) (a := ⟨db, 3, none⟩) H1.out.odb v1) (fun _ _ h => h))
  have HFIN := Aside0.mk hfin
  have hsh : ∃ A2 n2 c2, v1 = .slice A2 n2 c2 := by
    rcases hrow2.2 with ⟨rfl, _⟩ | ⟨g', cap, cur, rfl, _⟩
    · exact ⟨_, _, _, rfl⟩
    · exact ⟨_, _, _, rfl⟩
  clear hrow2 hg2 hat hcell2 hdb hb2 hlt2 hkk hnew hrow3 hcl3 hfin
  obtain ⟨A2, n2, c2, rfl⟩ := hsh
  go_wp2
  go_ret
  exact ⟨rfl, Went.mk HFIN.out rfl (fun k hk => hk.imp (fun h => h) (fun h => Nat.le_trans HO.out.size h.1)) HO2.out⟩
end
end Go.Proofs.Ytephblclhojffaa.A
