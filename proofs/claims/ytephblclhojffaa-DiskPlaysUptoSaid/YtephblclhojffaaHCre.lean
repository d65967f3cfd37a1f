/- Create. -/
import Derived.Test.YtephblclhojffaaAx0
import Derived.Test.YtephblclhojffaaHRen
namespace Go.Proofs.Ytephblclhojffaa.A
open Go.RowKit Go.Proofs.YtephblclhojffaaW.PrintWords Go.Proofs.YtephblclhojffaaW.PrintLast Go.Proofs.YtephblclhojffaaW.PrintMore
open Go.Maps
set_option linter.unusedVariables false
set_option linter.unusedSimpArgs false

section
variable {pl : Bool} {w w' w2 w3 : World} {own own' own1 : Nat → Prop} {fb : List Nat} {db dm sm : Nat} {chs : Value} {sl xs : List Value} {M M' : DM}
theorem MapR.drewN {b : Nat} {d : Dir} (h : MapR w own fb b d) (n : Nat) : MapR (w.drewN n) own fb b d := h.kept rfl (fun _ h => h)
theorem lookN {b : Nat} {d : Dir} (h : MapR w own fb b d) (nm : ByteArray) (hs : nm.size ≤ maxLen) (n : Nat) :
    (Instr.lookup 61 (.map (some b)) (.string nm) false).run Try.prog (w.drewN n) = .ok (ptrV ((dGet d nm.data.toList).map (fbG fb))) (w.drewN n) := look (h.drewN n) nm hs
theorem one_get {α : Type} {x y : α} {i : Nat} (h : [x][i]? = some y) : i = 0 ∧ x = y := by
  cases i with
  | zero => exact ⟨rfl, by simpa using h⟩
  | succ i => simp at h
theorem dirD_push (fb : List Nat) (b : Nat) (d : Dir) (h : ∀ p ∈ d, p.2 < fb.length) : dirD (fb ++ [b]) d = dirD fb d := by
  unfold dirD
  congr 1
  refine List.map_congr_left fun p hp => ?_
  have := h p hp
  simp [fbG, List.getD_eq_getElem?_getD, List.getElem?_append_left this]
theorem fbG_push (fb : List Nat) (b i : Nat) (h : i < fb.length) : fbG (fb ++ [b]) i = fbG fb i ∧ i < (fb ++ [b]).length := by
  refine ⟨?_, by rw [List.length_append]; omega⟩
  simp [fbG, List.getD_eq_getElem?_getD, List.getElem?_append_left h]
theorem fbG_new (fb : List Nat) (b : Nat) : fbG (fb ++ [b]) fb.length = b := by simp [fbG, List.getD_eq_getElem?_getD]
/-- A new file. -/
theorem DiskR.filePush (h : DiskR pl w own db dm sm chs fb sl xs M) (hk : ∀ k, own k → w'.heap[k]? = w.heap[k]?) (ho : ∀ k, own k → own' k) (hlt : ∀ k, own' k → k < w'.heap.size) {b : Nat} (hob : own' b) (hnb : ¬ own b)
    (hb : w'.heap[b]? = some (.cells #[.slice none 0 0, .int .i64 0] 59 (0, 0))) : DiskR pl w' own' db dm sm chs (fb ++ [b]) (sl ++ [.slice none 0 0]) xs { M with files := M.files ++ [([], 0)] } := by
  have hK := h.kept hk ho hlt
  have hl1 := h.files.lenb
  have hl2 := h.files.lens
  refine ⟨hK.odb, hK.bdb, ⟨by simp [hl1], by simp [hl2], fun i c hc => ?_, fun i c v f h1 h2 h3 => ?_, fun i j c h1 h2 => ?_, fun i j u v g h1 h2 h3 h4 => ?_⟩, ⟨hK.dirR.ow, ?_, fun p hp => (fbG_push fb b _ (hK.dirR.val p hp)).2⟩, ⟨hK.sdirR.ow, ?_, fun p hp => (fbG_push fb b _ (hK.sdirR.val p hp)).2⟩, hK.ne, hK.chgR.kept (fun _ _ _ _ _ _ _ => rfl) (fun _ h => h) (fun i hi => fbG_push fb b i hi), hlt⟩
  · rw [List.getElem?_append] at hc
    split at hc
    · exact hK.files.ow i c hc
    · obtain ⟨-, rfl⟩ := one_get hc
      exact hob
  · by_cases hi : i < fb.length
    · rw [List.getElem?_append_left hi] at h1
      rw [List.getElem?_append_left (by omega)] at h2 h3
      exact hK.files.blk i c v f h1 h2 h3
    · rw [List.getElem?_append_right (by omega)] at h1 h2 h3
      obtain ⟨-, rfl⟩ := one_get h1
      obtain ⟨-, rfl⟩ := one_get h2
      obtain ⟨-, rfl⟩ := one_get h3
      exact ⟨hb, .inl ⟨rfl, rfl⟩⟩
  · rw [List.getElem?_append] at h1 h2
    split at h1 <;> split at h2
    · exact h.files.inj i j c h1 h2
    · obtain ⟨-, rfl⟩ := one_get h2
      exact absurd (h.files.ow i b h1) hnb
    · obtain ⟨-, rfl⟩ := one_get h1
      exact absurd (h.files.ow j b h2) hnb
    · obtain ⟨e1, -⟩ := one_get h1
      obtain ⟨e2, -⟩ := one_get h2
      omega
  · rw [List.getElem?_append] at h1 h2
    split at h1 <;> split at h2
    · exact h.files.dinj i j u v g h1 h2 h3 h4
    · obtain ⟨-, rfl⟩ := one_get h2
      simp [Value.ownBlock] at h4
    · obtain ⟨-, rfl⟩ := one_get h1
      simp [Value.ownBlock] at h3
    · obtain ⟨-, rfl⟩ := one_get h1
      simp [Value.ownBlock] at h3
  · rw [dirD_push fb b _ hK.dirR.val]; exact hK.dirR.owns
  · rw [dirD_push fb b _ hK.sdirR.val]; exact hK.sdirR.owns
set_option maxRecDepth 100000 in
set_option maxHeartbeats 4000000 in
theorem Create.calls (h : DiskR pl w own db dm sm chs fb sl xs M) (nm : ByteArray) (hs : nm.size ≤ maxLen) (hB : Bd M) :
    Calls Try.prog 26 #[.pointer (some ⟨db, 0, none⟩), .string nm] w fun e w' => e = .returned (.int .i64 (createF M nm.data.toList).2) ∧ Went pl w w' own db (createF M nm.data.toList).1 := by
  have hbel : Below w.heap.size w (w.alloc (.cells #[.string nm] 9)) := (Below.refl w.heap.size w).alloc (Nat.le_refl _) _
  have h0 := h.below hbel
  have hn := call.calls h0 hB.c0 (by have := hB.c1; omega)
  have HO0 := Aside0.mk (Only.of_below hbel own)
  have HBA : Aside0 ((w.alloc (.cells #[.string nm] 9)).heap[w.heap.size]? = some (.cells #[.string nm] 9 (0, 0))) := ⟨heap_alloc w _⟩
  have hodb := h.odb
  have HL := Aside0.mk (h.lt db hodb)
  have HLT := Aside0.mk h.lt
  have HSZ := Aside0.mk (show (w.alloc (.cells #[.string nm] 9)).heap.size = w.heap.size + 1 by simp)
  have CA : Aside0 (∀ w1 : World, Only (w.alloc (.cells #[.string nm] 9)) w1 (· = db) → w1.heap[w.heap.size]? = some (.cells #[.string nm] 9 (0, 0))) := ⟨fun w1 h2 => (h2.block _ (by rw [HSZ.out]; omega) (by have := HL.out; omega)).trans HBA.out⟩
  clear hbel
  by_cases he : callE M = 0
  · rw [he] at hn
    have HB := Aside0.mk hB
    have HS := Aside0.mk hs
    cases hg : dGet M.dir nm.data.toList with
    | some i =>
      have E := Aside0.mk (show createF M nm.data.toList = (tick M, 12) by unfold createF; rw [if_neg (by rw [he]; simp), if_pos (by rw [hg]; rfl)])
      have HG := Aside0.mk hg
      clear h h0 he hg hs hB
      go_enter Try.func26, Try.ntmps26
      go_wp2_with fail
      refine hn.mono ?_
      rintro e w1 ⟨rfl, h1, h2, h3⟩
      have hx := CA.out w1 h2
      have y1 := cells_of hx 0 rfl
      have y2 := cells_of h1.bdb 1 rfl
      have hl := lookN h1.dirR nm HS.out
      rw [show (tick M).dir = M.dir from rfl, HG.out] at hl
      simp only [Option.map_some, ptrV] at hl
      obtain ⟨b, hbb⟩ : ∃ b, fbG fb i = b := ⟨_, rfl⟩
      rw [hbb] at hl
      have H1 := Aside0.mk h1; have H2 := Aside0.mk h2
      clear h1 h2 h3 hx hbb
      go_wp2_with fail
      go_quiet (fail)
      go_wp2
      go_ret
      exact ⟨by rw [E.out]; rfl, (Went.err (H1.out.below (pw_below_drewN (Below.refl _ _) _)) (by rw [E.out]) (H2.out.trans (Only.of_below (pw_below_drewN (Below.refl _ _) _) _) (fun _ _ h => h))).after HO0.out (fun _ h => .inl h)⟩
    | none =>
      have HG := Aside0.mk hg
      have HE : ∀ x, rightB nm.data.toList = x → createF M nm.data.toList = if x = true then ({ tick M with files := M.files ++ [([], 0)], dir := dPut M.dir nm.data.toList M.files.length, chg := M.chg ++ [.mk nm.data.toList M.files.length] }, 0) else (tick M, 12) := fun x hx => by
        unfold createF; rw [if_neg (by rw [he]; simp), ← hx, hg]; cases rightB nm.data.toList <;> simp
      have hri := right.calls nm (by unfold maxLen at hs; omega)
      cases hr : rightB nm.data.toList with
      | false =>
        have E := Aside0.mk ((HE false hr).trans (if_neg (by simp)))
        rw [hr] at hri
        have HRI := Aside0.mk hri
        clear h h0 he hg hs hB HE hr hri
        go_enter Try.func26, Try.ntmps26
        go_wp2_with fail
        refine hn.mono ?_
        rintro e w1 ⟨rfl, h1, h2, h3⟩
        have hx := CA.out w1 h2
        have y1 := cells_of hx 0 rfl
        have y2 : w1.cell? ⟨db, 1, none⟩ = some (.map (some dm)) := cells_of h1.bdb 1 rfl
        change w1.cell? ⟨w.heap.size, 0, none⟩ = some (.string nm) at y1
        have HLK := Aside0.mk (fun W (hb : Below w1.heap.size w1 W) => look (h1.below hb).dirR nm HS.out)
        have HLKN : Aside0 (∀ W, Below w1.heap.size w1 W → Sem.run Try.prog (Instr.lookup 61 (.map (some dm)) (.string nm) false) W = .ok (.pointer none) W) := ⟨fun W hb => by
          have hl := HLK.out W hb
          rw [show (tick M).dir = M.dir from rfl, HG.out] at hl
          exact hl⟩
        have hl := HLKN.out w1 (Below.refl _ _)
        clear HLK
        have H1 := Aside0.mk h1; have H2 := Aside0.mk h2
        have HBW := Aside0.mk (Below.refl w1.heap.size w1)
        clear h1 h2 h3 hx
        go_wp2_with fail
        go_region_held3 (fun w' => w'.cell? ⟨db, 1, none⟩ = some (.map (some dm)) ∧ w'.cell? ⟨w.heap.size, 0, none⟩ = some (.string nm) ∧ Sem.run Try.prog (Instr.lookup 61 (.map (some dm)) (.string nm) false) w' = .ok (.pointer none) w' ∧ Aside0 (Below w1.heap.size w1 w'))
          ((repeat' apply And.intro) <;> (first | assumption | exact pw_cell_below hb' (by assumption) | exact AB_then (by assumption) hb' (by assumption) | exact AB_drew (by assumption) | exact HLKN.out _ (below_drew HBW.out) | exact HLKN.out _ HB2.out | go_keep))
          (first | (go_at_call 53; refine (HRI.out _).mono ?_; rintro e w2 ⟨rfl, hb'⟩; (have HB2 := Aside0.mk ((below_drew HBW.out).trans (hb'.mono ((below_drew HBW.out).size))))))
        go_wp2
        go_ret
        exact ⟨by rw [E.out]; rfl, (Went.err (H1.out.below HB2.out) (by rw [E.out]) (H2.out.trans (Only.of_below HB2.out _) (fun _ _ h => h))).after HO0.out (fun _ h => .inl h)⟩
      | true =>
        have E := Aside0.mk ((HE true hr).trans (if_pos rfl))
        rw [hr] at hri
        have HRI := Aside0.mk hri
        clear h h0 he hg hs hB HE hr hri
        go_enter Try.func26, Try.ntmps26
        go_wp2_with fail
        refine hn.mono ?_
        rintro e w1 ⟨rfl, h1, h2, h3⟩
        have hx := CA.out w1 h2
        have y1 := cells_of hx 0 rfl
        have y2 : w1.cell? ⟨db, 1, none⟩ = some (.map (some dm)) := cells_of h1.bdb 1 rfl
        change w1.cell? ⟨w.heap.size, 0, none⟩ = some (.string nm) at y1
        have HLK := Aside0.mk (fun W (hb : Below w1.heap.size w1 W) => look (h1.below hb).dirR nm HS.out)
        have HLKN : Aside0 (∀ W, Below w1.heap.size w1 W → Sem.run Try.prog (Instr.lookup 61 (.map (some dm)) (.string nm) false) W = .ok (.pointer none) W) := ⟨fun W hb => by
          have hl := HLK.out W hb
          rw [show (tick M).dir = M.dir from rfl, HG.out] at hl
          exact hl⟩
        have hl := HLKN.out w1 (Below.refl _ _)
        clear HLK
        have H1 := Aside0.mk h1; have H2 := Aside0.mk h2; have H3 := Aside0.mk h3; have HX := Aside0.mk hx
        have HBW := Aside0.mk (Below.refl w1.heap.size w1)
        clear h1 h2 h3 hx
        go_wp2_with fail
        go_region_held3 (fun w' => w'.cell? ⟨db, 1, none⟩ = some (.map (some dm)) ∧ w'.cell? ⟨w.heap.size, 0, none⟩ = some (.string nm) ∧ Sem.run Try.prog (Instr.lookup 61 (.map (some dm)) (.string nm) false) w' = .ok (.pointer none) w' ∧ Aside0 (Below w1.heap.size w1 w'))
          ((repeat' apply And.intro) <;> (first | assumption | exact pw_cell_below hb' (by assumption) | exact AB_then (by assumption) hb' (by assumption) | exact AB_drew (by assumption) | exact HLKN.out _ (below_drew HBW.out) | exact HLKN.out _ HB2.out | go_keep))
          (first | (go_at_call 53; refine (HRI.out _).mono ?_; rintro e w2 ⟨rfl, hb'⟩; (have HB2 := Aside0.mk ((below_drew HBW.out).trans (hb'.mono ((below_drew HBW.out).size))))))
        clear hl y1 y2
        go_wp2_with fail
        have h2 := H1.out.below HB2.out
        have hs1 : w1.heap.size = w.heap.size + 1 := by rw [H3.out, HSZ.out]
        have hs2 := HB2.out.size
        have hbel : Below w2.heap.size w2 ((w2.alloc (.cells #[.slice none 0 0, .int .i64 0] 59)).alloc (.cells #[.pointer (some ⟨w2.heap.size, 0, none⟩)] 56)) := ((Below.refl w2.heap.size w2).alloc (Nat.le_refl _) _).alloc (by simp) _
        have hsz4 : ((w2.alloc (.cells #[.slice none 0 0, .int .i64 0] 59)).alloc (.cells #[.pointer (some ⟨w2.heap.size, 0, none⟩)] 56)).heap.size = w2.heap.size + 2 := by simp
        have hbA : ((w2.alloc (.cells #[.slice none 0 0, .int .i64 0] 59)).alloc (.cells #[.pointer (some ⟨w2.heap.size, 0, none⟩)] 56)).heap[w2.heap.size]? = some (.cells #[.slice none 0 0, .int .i64 0] 59 (0, 0)) := (Below.heap_alloc _ _ _ (by simp)).trans (heap_alloc w2 _)
        have hbB : ((w2.alloc (.cells #[.slice none 0 0, .int .i64 0] 59)).alloc (.cells #[.pointer (some ⟨w2.heap.size, 0, none⟩)] 56)).heap[w2.heap.size + 1]? = some (.cells #[.pointer (some ⟨w2.heap.size, 0, none⟩)] 56 (0, 0)) := by
          have h := heap_alloc (w2.alloc (.cells #[.slice none 0 0, .int .i64 0] 59)) (.cells #[.pointer (some ⟨w2.heap.size, 0, none⟩)] 56); simpa using h
        generalize (w2.alloc (.cells #[.slice none 0 0, .int .i64 0] 59)).alloc (.cells #[.pointer (some ⟨w2.heap.size, 0, none⟩)] 56) = w4 at *
        have hbN : w4.heap[w.heap.size]? = some (.cells #[.string nm] 9 (0, 0)) := (hbel.block _ (by omega)).trans ((HB2.out.block _ (by omega)).trans HX.out)
        have hown : ∀ k, plus own w.heap.size (w4.heap.size - w.heap.size) k → k < w4.heap.size := fun k hk => by
          rcases hk with hk | hk
          · have := HLT.out k hk; omega
          · omega
        have hD := h2.filePush (w' := w4) (own' := plus own w.heap.size (w4.heap.size - w.heap.size)) (fun k hk => hbel.block k (h2.lt k hk)) (fun _ h => .inl h) hown (b := w2.heap.size) (.inr ⟨by omega, by omega⟩) (fun e => by have := HLT.out _ e; omega) hbA
        have hfl : fb.length = M.files.length := h2.files.lenb
        have hc := change.calls hD (.func (.func 55) #[] #[.pointer (some ⟨w2.heap.size + 1, 0, none⟩), .pointer (some ⟨w.heap.size, 0, none⟩)]) (.mk nm.data.toList M.files.length)
          ⟨w2.heap.size + 1, w.heap.size, nm, rfl, .inr ⟨by omega, by omega⟩, .inr ⟨Nat.le_refl _, by omega⟩, by rw [List.length_append, hfl]; exact Nat.lt_succ_self _, by rw [← hfl, fbG_new]; exact hbB, hbN, rfl, HS.out⟩ (by show M.files.length < _; rw [List.length_append, hfl]; exact Nat.lt_succ_self _) HB.out.dl HB.out.cl
        have HO := Aside0.mk (((HO0.out.trans (H2.out.mono (S' := own) (fun k _ e => e ▸ hodb)) (fun _ _ h => h)).trans (Only.of_below HB2.out own) (fun _ _ h => h)).trans (Only.of_below hbel own) (fun _ _ h => h))
        clear h2 hs1 hs2 hbel hsz4 hbA hbB hbN hown hD hfl
        refine hc.mono ?_
        rintro e w5 ⟨rfl, hw⟩
        have HW := Aside0.mk hw
        clear hw hc
        go_wp2
        go_ret
        exact ⟨by rw [E.out]; rfl, by rw [E.out]; exact HW.out.after HO.out (fun k hk => hk.imp (fun h => h) (fun h => h.1))⟩
  · obtain ⟨e3, e4⟩ : (callE M == 0) = false ∧ (callE M != 0) = true := ⟨by simpa using he, by simpa using he⟩
    have E := Aside0.mk (show createF M nm.data.toList = (tick M, callE M) from if_pos he)
    clear h h0 he hs hB
    go_enter Try.func26, Try.ntmps26
    go_wp2_with fail
    refine hn.mono ?_
    rintro e w1 ⟨rfl, h1, h2, h3⟩
    have H1 := Aside0.mk h1; have H2 := Aside0.mk h2
    clear h1 h2 h3
    go_wp2
    go_ret
    exact ⟨by rw [E.out]; rfl, (Went.err H1.out (by rw [E.out]) H2.out).after HO0.out (fun _ h => .inl h)⟩
end
end Go.Proofs.Ytephblclhojffaa.A
