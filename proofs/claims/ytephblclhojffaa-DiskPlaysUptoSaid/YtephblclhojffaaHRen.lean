/- Remove and Rename. -/
import Derived.Test.YtephblclhojffaaAx0
import Derived.Test.YtephblclhojffaaHChange
import Derived.Test.YtephblclhojffaaHRight
namespace Go.Proofs.Ytephblclhojffaa.A
open Go.RowKit Go.Proofs.YtephblclhojffaaW.PrintWords Go.Proofs.YtephblclhojffaaW.PrintLast Go.Proofs.YtephblclhojffaaW.PrintMore
open Go.Maps
set_option linter.unusedVariables false
set_option linter.unusedSimpArgs false

section
variable {pl : Bool} {w w' w2 w3 : World} {own own' own1 : Nat → Prop} {fb : List Nat} {db dm sm : Nat} {chs : Value} {sl xs : List Value} {M M' : DM}
theorem Went.after (h : Went pl w2 w3 own1 db M') (h1 : Only w w2 own) (ho : ∀ k, own1 k → own k ∨ w.heap.size ≤ k) : Went pl w w3 own db M' := by
  obtain ⟨o, h2, h3, h4⟩ := h
  refine ⟨o, h2, fun k hk => ?_, h1.trans h4 (fun i hi hs => ?_)⟩
  · rcases h3 k hk with h | h
    · exact ho k h
    · exact .inr (Nat.le_trans h1.size h)
  · rcases ho i hs with h | h
    · exact h
    · omega
theorem DiskR.widen (h : DiskR pl w own db dm sm chs fb sl xs M) (ho : ∀ k, own k → own' k) (hlt : ∀ k, own' k → k < w.heap.size) : DiskR pl w own' db dm sm chs fb sl xs M := h.kept (fun _ _ => rfl) ho hlt
theorem Went.err (h : DiskR pl w' own db dm sm chs fb sl xs M) (e : M' = M) (h2 : Only w w' (· = db)) : Went pl w w' own db M' := Went.same h e (h2.mono (fun k _ e => e ▸ h.odb))
/-- The blocks from b to b + n besides. -/
def plus (own : Nat → Prop) (b n : Nat) (k : Nat) : Prop := own k ∨ (b ≤ k ∧ k < b + n)
set_option maxHeartbeats 2000000 in
theorem Remove.calls (h : DiskR pl w own db dm sm chs fb sl xs M) (nm : ByteArray) (hs : nm.size ≤ maxLen) (hB : Bd M) :
    Calls Try.prog 38 #[.pointer (some ⟨db, 0, none⟩), .string nm] w fun e w' => e = .returned (.int .i64 (removeF M nm.data.toList).2) ∧ Went pl w w' own db (removeF M nm.data.toList).1 := by
  have h0 := h.below ((Below.refl w.heap.size w).alloc (Nat.le_refl _) (.cells #[.string nm] 9))
  have hn := named.calls h0 nm hs hB.c0 (by have := hB.c1; omega)
  have HO0 := Aside0.mk (Only.of_below ((Below.refl w.heap.size w).alloc (Nat.le_refl _) (.cells #[.string nm] 9)) own)
  have hbox := heap_alloc w (.cells #[.string nm] 9)
  have HBX := Aside0.mk hbox
  have hodb := h.odb
  have HL := Aside0.mk (h.lt db hodb)
  have HLT := Aside0.mk h.lt
  have HSZ := Aside0.mk (show (w.alloc (.cells #[.string nm] 9)).heap.size = w.heap.size + 1 by simp)
  by_cases he : callE M = 0
  · cases hg : dGet M.dir nm.data.toList with
    | none =>
      obtain ⟨e1, e2⟩ := named_none M _ fb he hg
      rw [e1, e2] at hn
      have E := Aside0.mk (show removeF M nm.data.toList = (tick M, 12) by unfold removeF; rw [if_neg (by rw [he]; simp), if_pos (by rw [hg]; rfl)])
      clear h h0 he hg hs hB e1 e2 hbox
      go_enter Try.func38, Try.ntmps38
      go_wp2_with fail
      refine hn.mono ?_
      rintro e w1 ⟨rfl, h1, h2, h3⟩
      have H1 := Aside0.mk h1; have H2 := Aside0.mk h2
      clear h1 h2 h3
      go_wp2
      go_ret
      exact ⟨by rw [E.out]; rfl, (Went.err H1.out (by rw [E.out]) H2.out).after HO0.out (fun _ h => .inl h)⟩
    | some i =>
      obtain ⟨e1, e2⟩ := named_some M _ fb he hg
      rw [e1, e2] at hn
      have E := Aside0.mk (show removeF M nm.data.toList = ({ tick M with dir := Chg.app M.dir (.rm nm.data.toList), chg := M.chg ++ [.rm nm.data.toList] }, 0) by unfold removeF; rw [if_neg (by rw [he]; simp), if_neg (by rw [hg]; simp)])
      obtain ⟨b, hbb⟩ : ∃ b, fbG fb i = b := ⟨_, rfl⟩
      rw [hbb] at hn
      have HB := Aside0.mk hB
      have HS := Aside0.mk hs
      clear h h0 he hg hs hB e1 e2 hbox hbb
      go_enter Try.func38, Try.ntmps38
      go_wp2_with fail
      refine hn.mono ?_
      rintro e w1 ⟨rfl, h1, h2, h3⟩
      have hb1 : w1.heap[w.heap.size]? = some (.cells #[.string nm] 9 (0, 0)) := (h2.block _ (by rw [HSZ.out]; omega) (by have := HL.out; omega)).trans HBX.out
      have hlt1 : ∀ k, plus own w.heap.size 1 k → k < w1.heap.size := fun k hk => by
        rw [h3, HSZ.out]
        rcases hk with hk | hk
        · have := HLT.out k hk; omega
        · omega
      have hc := change.calls (h1.widen (own' := plus own w.heap.size 1) (fun _ h => .inl h) hlt1) (.func (.func 62) #[] #[.pointer (some ⟨w.heap.size, 0, none⟩)]) (.rm nm.data.toList) ⟨w.heap.size, nm, rfl, .inr ⟨Nat.le_refl _, by omega⟩, hb1, rfl, HS.out⟩ trivial HB.out.dl HB.out.cl
      have HO := Aside0.mk (HO0.out.trans (h2.mono (S' := own) (fun k _ e => e ▸ hodb)) (fun _ _ h => h))
      clear h1 h2 h3 hb1 hlt1
      go_wp2_with fail
      refine hc.mono ?_
      rintro e w2 ⟨rfl, hw⟩
      have HW := Aside0.mk hw
      clear hw hc
      go_wp2
      go_ret
      exact ⟨by rw [E.out]; rfl, by rw [E.out]; exact HW.out.after HO.out (fun k hk => hk.imp (fun h => h) (fun h => h.1))⟩
  · obtain ⟨e1, e2, e3, e4⟩ := named_bad M nm.data.toList fb he
    rw [e1, e2] at hn
    have E := Aside0.mk (show removeF M nm.data.toList = (tick M, callE M) from if_pos he)
    clear h h0 he hs hB e1 e2 hbox
    go_enter Try.func38, Try.ntmps38
    go_wp2_with fail
    refine hn.mono ?_
    rintro e w1 ⟨rfl, h1, h2, h3⟩
    have H1 := Aside0.mk h1; have H2 := Aside0.mk h2
    clear h1 h2 h3
    go_wp2
    go_ret
    exact ⟨by rw [E.out]; rfl, (Went.err H1.out (by rw [E.out]) H2.out).after HO0.out (fun _ h => .inl h)⟩

theorem same_list (a b : ByteArray) : (a.toList == b.toList) = (a.data.toList == b.data.toList) := by rw [ByteArray.toList_eq, ByteArray.toList_eq]
set_option maxHeartbeats 4000000 in
theorem Rename.calls (h : DiskR pl w own db dm sm chs fb sl xs M) (na nb : ByteArray) (hs : na.size ≤ maxLen) (hsb : nb.size ≤ maxLen) (hB : Bd M) :
    Calls Try.prog 37 #[.pointer (some ⟨db, 0, none⟩), .string na, .string nb] w fun e w' => e = .returned (.int .i64 (renameF M na.data.toList nb.data.toList).2) ∧ Went pl w w' own db (renameF M na.data.toList nb.data.toList).1 := by
  have hbel : Below w.heap.size w ((w.alloc (.cells #[.string na] 9)).alloc (.cells #[.string nb] 9)) := ((Below.refl w.heap.size w).alloc (Nat.le_refl _) _).alloc (by simp) _
  have h0 := h.below hbel
  have hn := named.calls h0 na hs hB.c0 (by have := hB.c1; omega)
  have HO0 := Aside0.mk (Only.of_below hbel own)
  have HBA : Aside0 (((w.alloc (.cells #[.string na] 9)).alloc (.cells #[.string nb] 9)).heap[w.heap.size]? = some (.cells #[.string na] 9 (0, 0))) := ⟨(Below.heap_alloc _ _ _ (by simp)).trans (heap_alloc w _)⟩
  have HBB : Aside0 (((w.alloc (.cells #[.string na] 9)).alloc (.cells #[.string nb] 9)).heap[w.heap.size + 1]? = some (.cells #[.string nb] 9 (0, 0))) := ⟨by have h := heap_alloc (w.alloc (.cells #[.string na] 9)) (.cells #[.string nb] 9); simpa using h⟩
  have hodb := h.odb
  have HL := Aside0.mk (h.lt db hodb)
  have HLT := Aside0.mk h.lt
  have HSZ := Aside0.mk (show ((w.alloc (.cells #[.string na] 9)).alloc (.cells #[.string nb] 9)).heap.size = w.heap.size + 2 by simp)
  have ca : ∀ w1 : World, Only ((w.alloc (.cells #[.string na] 9)).alloc (.cells #[.string nb] 9)) w1 (· = db) → w1.heap[w.heap.size]? = some (.cells #[.string na] 9 (0, 0)) ∧ w1.heap[w.heap.size + 1]? = some (.cells #[.string nb] 9 (0, 0)) := fun w1 h2 =>
    ⟨(h2.block _ (by rw [HSZ.out]; omega) (by have := HL.out; omega)).trans HBA.out, (h2.block _ (by rw [HSZ.out]; omega) (by have := HL.out; omega)).trans HBB.out⟩
  have CA := Aside0.mk ca
  clear ca hbel
  have a0 : ((w.alloc (.cells #[.string na] 9)).alloc (.cells #[.string nb] 9)).cell? ⟨w.heap.size, 0, none⟩ = some (.string na) := cells_of HBA.out 0 rfl
  by_cases he : callE M = 0
  · cases hg : dGet M.dir na.data.toList with
    | none =>
      obtain ⟨e1, e2⟩ := named_none M _ fb he hg
      rw [e1, e2] at hn
      have E := Aside0.mk (show renameF M na.data.toList nb.data.toList = (tick M, 12) by unfold renameF; rw [if_neg (by rw [he]; simp), if_pos (by rw [hg]; rfl)])
      clear h h0 he hg hs hsb hB e1 e2
      go_enter Try.func37, Try.ntmps37
      go_wp2_with fail
      refine hn.mono ?_
      rintro e w1 ⟨rfl, h1, h2, h3⟩
      have H1 := Aside0.mk h1; have H2 := Aside0.mk h2
      clear h1 h2 h3
      go_wp2
      go_ret
      exact ⟨by rw [E.out]; rfl, (Went.err H1.out (by rw [E.out]) H2.out).after HO0.out (fun _ h => .inl h)⟩
    | some i =>
      obtain ⟨e1, e2⟩ := named_some M _ fb he hg
      rw [e1, e2] at hn
      have HE : ∀ x, (na.data.toList == nb.data.toList || !rightB nb.data.toList) = x → renameF M na.data.toList nb.data.toList = if x = true then (tick M, 12) else ({ tick M with dir := Chg.app M.dir (.ren na.data.toList nb.data.toList), chg := M.chg ++ [.ren na.data.toList nb.data.toList] }, 0) := fun x hx => by
        unfold renameF; rw [if_neg (by rw [he]; simp), ← hx, hg]; simp
      have HEE := Aside0.mk HE
      obtain ⟨b, hbb⟩ : ∃ b, fbG fb i = b := ⟨_, rfl⟩
      rw [hbb] at hn
      have HB := Aside0.mk hB
      have HS := Aside0.mk hs
      have HS2 := Aside0.mk hsb
      have HG := Aside0.mk hg
      clear h h0 he hg hs hsb hB e1 e2 hbb HE
      cases heq : (na.data.toList == nb.data.toList) with
      | true =>
        have E := Aside0.mk (HEE.out true (by rw [heq]; rfl))
        have heq' := (same_list na nb).trans heq
        clear heq
        go_enter Try.func37, Try.ntmps37
        go_wp2_with fail
        refine hn.mono ?_
        rintro e w1 ⟨rfl, h1, h2, h3⟩
        obtain ⟨x1, x2⟩ := CA.out w1 h2
        have y1 := cells_of x1 0 rfl
        have y2 := cells_of x2 0 rfl
        have H1 := Aside0.mk h1; have H2 := Aside0.mk h2
        clear h1 h2 h3 x1 x2
        go_wp2
        go_ret
        exact ⟨by rw [E.out]; rfl, (Went.err H1.out (by rw [E.out]; rfl) H2.out).after HO0.out (fun _ h => .inl h)⟩
      | false =>
        have heq' := (same_list na nb).trans heq
        have hri := right.calls nb (by have := HS2.out; unfold maxLen at this; omega)
        cases hr : rightB nb.data.toList with
        | false =>
          have E := Aside0.mk (HEE.out true (by rw [heq, hr]; rfl))
          rw [hr] at hri
          clear heq hr
          go_enter Try.func37, Try.ntmps37
          go_wp2_with fail
          refine hn.mono ?_
          rintro e w1 ⟨rfl, h1, h2, h3⟩
          obtain ⟨x1, x2⟩ := CA.out w1 h2
          have y1 := cells_of x1 0 rfl
          have y2 := cells_of x2 0 rfl
          have H1 := Aside0.mk h1; have H2 := Aside0.mk h2
          clear h1 h2 h3 x1 x2
          go_wp2_with fail
          refine (hri w1).mono ?_
          rintro e w2 ⟨rfl, hb2⟩
          have H3 := Aside0.mk hb2
          clear hb2
          go_wp2
          go_ret
          exact ⟨by rw [E.out]; rfl, ((Went.same (own := own) (H1.out.below H3.out) (by rw [E.out]; rfl) (Only.of_below H3.out own)).after (H2.out.mono (S' := own) (fun k _ e => e ▸ hodb)) (fun _ h => .inl h)).after HO0.out (fun _ h => .inl h)⟩
        | true =>
          have E := Aside0.mk (HEE.out false (by rw [heq, hr]; rfl))
          rw [hr] at hri
          clear heq hr
          go_enter Try.func37, Try.ntmps37
          go_wp2_with fail
          refine hn.mono ?_
          rintro e w1 ⟨rfl, h1, h2, h3⟩
          obtain ⟨x1, x2⟩ := CA.out w1 h2
          have y1 := cells_of x1 0 rfl
          have y2 := cells_of x2 0 rfl
          have H1 := Aside0.mk h1; have H2 := Aside0.mk h2; have H3 := Aside0.mk h3; have X1 := Aside0.mk x1; have X2 := Aside0.mk x2
          clear h1 h2 h3 x1 x2
          go_wp2_with fail
          refine (hri w1).mono ?_
          rintro e w2 ⟨rfl, hb2⟩
          have hsz : w1.heap.size = w.heap.size + 2 := by rw [H3.out, HSZ.out]
          have z1 := (hb2.block w.heap.size (by omega)).trans X1.out
          have z2 := (hb2.block (w.heap.size + 1) (by omega)).trans X2.out
          have hlt2 : ∀ k, plus own w.heap.size 2 k → k < w2.heap.size := fun k hk => by
            have := hb2.size
            rcases hk with hk | hk
            · have := HLT.out k hk; omega
            · omega
          have hc := change.calls ((H1.out.below hb2).widen (own' := plus own w.heap.size 2) (fun _ h => .inl h) hlt2) (.func (.func 61) #[] #[.pointer (some ⟨w.heap.size, 0, none⟩), .pointer (some ⟨w.heap.size + 1, 0, none⟩)]) (.ren na.data.toList nb.data.toList)
            ⟨w.heap.size, w.heap.size + 1, na, nb, rfl, .inr ⟨Nat.le_refl _, by omega⟩, .inr ⟨by omega, by omega⟩, z1, z2, rfl, rfl, HS.out, HS2.out⟩ (by show (dGet M.dir na.data.toList).isSome = true; rw [HG.out]; rfl) HB.out.dl HB.out.cl
          have HO := Aside0.mk ((HO0.out.trans (H2.out.mono (S' := own) (fun k _ e => e ▸ hodb)) (fun _ _ h => h)).trans (Only.of_below hb2 own) (fun _ _ h => h))
          clear hb2 hsz z1 z2 hlt2 y1 y2
          go_wp2_with fail
          refine hc.mono ?_
          rintro e w3 ⟨rfl, hw⟩
          have HW := Aside0.mk hw
          clear hw hc
          go_wp2
          go_ret
          exact ⟨by rw [E.out]; rfl, by rw [E.out]; exact HW.out.after HO.out (fun k hk => hk.imp (fun h => h) (fun h => h.1))⟩
  · obtain ⟨e1, e2, e3, e4⟩ := named_bad M na.data.toList fb he
    rw [e1, e2] at hn
    have E := Aside0.mk (show renameF M na.data.toList nb.data.toList = (tick M, callE M) from if_pos he)
    clear h h0 he hs hsb hB e1 e2
    go_enter Try.func37, Try.ntmps37
    go_wp2_with fail
    refine hn.mono ?_
    rintro e w1 ⟨rfl, h1, h2, h3⟩
    have H1 := Aside0.mk h1; have H2 := Aside0.mk h2
    clear h1 h2 h3
    go_wp2
    go_ret
    exact ⟨by rw [E.out]; rfl, (Went.err H1.out (by rw [E.out]) H2.out).after HO0.out (fun _ h => .inl h)⟩
end
end Go.Proofs.Ytephblclhojffaa.A
