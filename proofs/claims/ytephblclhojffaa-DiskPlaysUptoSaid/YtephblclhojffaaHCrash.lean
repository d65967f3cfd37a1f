/- SyncDir and Crash. -/
import Derived.Test.YtephblclhojffaaAx0
import Derived.Test.YtephblclhojffaaHCre
namespace Go.Proofs.Ytephblclhojffaa.A
open Go.RowKit Go.Proofs.YtephblclhojffaaW.PrintWords Go.Proofs.YtephblclhojffaaW.PrintLast Go.Proofs.YtephblclhojffaaW.PrintMore
open Go.Maps
set_option linter.unusedVariables false
set_option linter.unusedSimpArgs false

section
variable {pl : Bool} {w w' w2 w3 : World} {own own' own1 : Nat → Prop} {fb : List Nat} {db dm sm : Nat} {chs : Value} {sl xs : List Value} {M M' : DM}
/-- Both directories are other ones now; no change is kept. -/
theorem DiskR.turn (h : DiskR pl w own db dm sm chs fb sl xs M) (hk : ∀ k, own k → k ≠ db → w'.heap[k]? = w.heap[k]?) (ho : ∀ k, own k → own' k) (hlt : ∀ k, own' k → k < w'.heap.size) {dm' sm' : Nat} {d s : Dir} {ca ha de : Int}
    (hb' : w'.heap[db]? = some (.cells #[.int .i64 M.space, .map (some dm'), .map (some sm'), .slice none 0 0, .int .i64 ca, .int .i64 ha, .int .i64 de] 64 (0, 0)))
    (hd : MapR w' own' fb dm' d) (hs : MapR w' own' fb sm' s) (hne : dm' ≠ sm') : DiskR pl w' own' db dm' sm' (.slice none 0 0) fb sl [] { M with dir := d, sdir := s, chg := [], calls := ca, halt := ha, deny := de } :=
  ⟨ho _ h.odb, hb', h.files.kept (fun k x t fr h1 h2 h3 => hk k h1 (ne_shape h3 h.bdb (by rcases h2 with rfl | rfl <;> decide))) ho, hd, hs, hne, ⟨World.ownsRow_nil _ _ _ _, by simp [Value.ownBlock], rfl, by simp⟩, hlt⟩
set_option maxHeartbeats 2000000 in
theorem SyncDir.calls (h : DiskR pl w own db dm sm chs fb sl xs M) (hc0 : 0 ≤ M.calls) (hc1 : M.calls < 4611686018427387904) :
    Calls Try.prog 31 #[.pointer (some ⟨db, 0, none⟩)] w fun e w' => e = .returned (.int .i64 (syncDirF M).2) ∧ Went pl w w' own db (syncDirF M).1 := by
  have hn := call.calls h hc0 hc1
  have hodb := h.odb
  by_cases he : callE M = 0
  · rw [he] at hn
    have E := Aside0.mk (show syncDirF M = ({ tick M with sdir := M.dir, chg := [] }, 0) by unfold syncDirF; rw [if_neg (by rw [he]; simp)])
    clear h he hc0 hc1
    go_enter Try.func31, Try.ntmps31
    go_wp2_with fail
    refine hn.mono ?_
    rintro e w1 ⟨rfl, h1, h2, h3⟩
    have hcl := clone_run h1.dirR
    have y1 := cells_of h1.bdb 1 rfl
    have H1 := Aside0.mk h1; have H2 := Aside0.mk h2
    clear h1 h2 h3
    go_wp2_with fail
    refine hcl.mono ?_
    rintro e w2 ⟨rfl, ho2, hb2, hs2⟩
    have hbb := (hb2.block db (H1.out.lt db hodb)).trans H1.out.bdb
    have y2 := cells_of hbb 2 rfl
    have y3 := cells_of hbb 3 rfl
    have f2 := free_of hbb 2
    have f3 := free_of hbb 3
    have HO2 := Aside0.mk ho2; have HB2 := Aside0.mk hb2; have HS2 := Aside0.mk hs2; have HBB := Aside0.mk hbb
    clear ho2 hb2 hs2 hbb hcl y1
    go_wp2
    have hkk : ∀ k, k ≠ db → ((w2.setCell ⟨db, 2, none⟩ (.map (some w1.heap.size))).setCell ⟨db, 3, none⟩ (.slice none 0 0)).heap[k]? = w2.heap[k]? := fun k hk => (Below.heap_setCell _ _ _ _ hk).trans (Below.heap_setCell _ _ _ _ hk)
    have hsz : ((w2.setCell ⟨db, 2, none⟩ (.map (some w1.heap.size))).setCell ⟨db, 3, none⟩ (.slice none 0 0)).heap.size = w1.heap.size + 1 := by rw [← HS2.out]; simp [World.setCell]
    have hmdb : ∀ (b n : Nat) (D : DataW Unit), w2.ownsMap Try.prog 9 ptrElem b n D → b ≠ db := fun b n D h => (ne_map HBB.out h).symm
    have hD2 := H1.out.below HB2.out
    have hfin := H1.out.turn (w' := (w2.setCell ⟨db, 2, none⟩ (.map (some w1.heap.size))).setCell ⟨db, 3, none⟩ (.slice none 0 0)) (own' := plus own w1.heap.size 1) (fun k h1 h2 => (hkk k h2).trans (HB2.out.block k (H1.out.lt k h1))) (fun _ h => .inl h)
      (fun k hk => by rw [hsz]; rcases hk with hk | hk; (have := H1.out.lt k hk; omega); omega) (heap_set (heap_set HBB.out 2 (.map (some w1.heap.size))) 3 (.slice none 0 0)) (hD2.dirR.kept (hkk _ (hmdb _ _ _ hD2.dirR.owns)) (fun _ h => .inl h))
      (MapR.kept (⟨.inr ⟨Nat.le_refl _, by omega⟩, HO2.out, H1.out.dirR.val⟩ : MapR w2 (plus own w1.heap.size 1) fb w1.heap.size (tick M).dir) (hkk _ (hmdb _ _ _ HO2.out)) (fun _ h => h)) (fun e => by have := H1.out.lt _ H1.out.dirR.ow; omega)
    go_ret
    exact ⟨by rw [E.out]; rfl, Went.mk hfin (by rw [E.out]; rfl) (fun k hk => hk.imp (fun h => h) (fun h => Nat.le_trans H2.out.size h.1)) (((H2.out.mono (S' := own) (fun k _ e => e ▸ hodb)).trans (Only.of_below HB2.out own) (fun _ _ h => h)).trans ((Only.setCell (S := own) (a := ⟨db, 2, none⟩) hodb _).trans (Only.setCell (S := own) (a := ⟨db, 3, none⟩) hodb _) (fun _ _ h => h)) (fun _ _ h => h))⟩
  · obtain ⟨e3, e4⟩ : (callE M == 0) = false ∧ (callE M != 0) = true := ⟨by simpa using he, by simpa using he⟩
    have E := Aside0.mk (show syncDirF M = (tick M, callE M) from if_pos he)
    clear h he hc0 hc1
    go_enter Try.func31, Try.ntmps31
    go_wp2_with fail
    refine hn.mono ?_
    rintro e w1 ⟨rfl, h1, h2, h3⟩
    have H1 := Aside0.mk h1; have H2 := Aside0.mk h2
    clear h1 h2 h3
    go_wp2
    go_ret
    exact ⟨by rw [E.out]; rfl, Went.err H1.out (by rw [E.out]) H2.out⟩
end
end Go.Proofs.Ytephblclhojffaa.A
