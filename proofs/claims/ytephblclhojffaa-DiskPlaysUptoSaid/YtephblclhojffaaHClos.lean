/- The changes' closures: what each makes of a directory. -/
import Derived.Test.YtephblclhojffaaAx0
import Derived.Test.YtephblclhojffaaHApp
import Derived.Shelf.Abstract
namespace Go.Proofs.Ytephblclhojffaa.A
open Go.RowKit Go.Proofs.YtephblclhojffaaW.PrintWords Go.Proofs.YtephblclhojffaaW.PrintLast Go.Proofs.YtephblclhojffaaW.PrintMore
open Go.Maps
set_option linter.unusedVariables false
set_option linter.unusedSimpArgs false

theorem owns_size {w : World} {b n : Nat} {fb : List Nat} {d : Dir} (h : w.ownsMap Try.prog 9 ptrElem b n (dirD fb d)) : w.ownsMap Try.prog 9 ptrElem b d.length (dirD fb d) := by
  obtain ⟨es, clock, hb, F, hs, hD⟩ := h
  refine ⟨es, clock, hb, F, ?_, hD⟩
  have h1 := dirD_size fb d
  rw [hD] at h1
  simp only [Maps.size] at h1
  rw [length_sorted] at h1
  simp at h1
  omega
section
variable {w w' : World} {own own' : Nat → Prop} {fb : List Nat} {b : Nat} {d : Dir}
theorem MapR.put {k : Bs} {f : Nat} (h : MapR w own fb b d) (hf : f < fb.length) {n : Nat} (ho : w'.ownsMap Try.prog 9 ptrElem b n ((dirD fb d).put (.string k) (.lit (.int .i64 (fbG fb f))))) : MapR w' own fb b (dPut d k f) := by
  rw [dirD_put] at ho
  refine ⟨h.ow, owns_size ho, fun p hp => ?_⟩
  rcases mem_dPut hp with rfl | hp
  · exact hf
  · exact h.val p hp
theorem MapR.del {k : Bs} (h : MapR w own fb b d) {n : Nat} (ho : w'.ownsMap Try.prog 9 ptrElem b n ((dirD fb d).del (.string k))) : MapR w' own fb b (dDel d k) := by
  rw [dirD_del] at ho
  exact ⟨h.ow, owns_size ho, fun p hp => h.val p (mem_dDel hp)⟩
set_option maxHeartbeats 1000000 in
theorem mk_run (b1 b2 : Nat) (nm : ByteArray) (f : Nat) (h1 : w.heap[b1]? = some (.cells #[.pointer (some ⟨fbG fb f, 0, none⟩)] 56 (0, 0))) (h2 : w.heap[b2]? = some (.cells #[.string nm] 9 (0, 0))) (hs : nm.size ≤ maxLen) (hf : f < fb.length) (hM : MapR w own fb b d) (hl : d.length < maxLen) :
    Calls Try.prog 55 #[.map (some b), .pointer (some ⟨b1, 0, none⟩), .pointer (some ⟨b2, 0, none⟩)] w fun e w' => e = .returned (.tuple #[]) ∧ MapR w' own fb b (dPut d nm.data.toList f) ∧ Only w w' (· = b) := by
  have c1 := cells_of h1 0 rfl
  have c2 := cells_of h2 0 rfl
  have HM := Aside0.mk hM
  have HL := Aside0.mk hl
  have HF := Aside0.mk hf
  have hkey := Aside0.mk (Go.WideMaps.keyOf_string_mk Try.underlying9 hs)
  clear h1 h2 hM hl hf hs
  obtain ⟨p, hp⟩ : ∃ p, fbG fb f = p := ⟨_, rfl⟩
  have HP := Aside0.mk hp
  change w.cell? ⟨b1, 0, none⟩ = some (.pointer (some ⟨fbG fb f, 0, none⟩)) at c1
  rw [hp] at c1
  clear hp
  go_enter Try.func55, Try.ntmps55
  go_wp2_with (at_mapUpdate; refine wpList_mapUpdate_own _ rfl _ _ _ 61 rfl 9 56 strKey Try.underlying61 ptrElem b d.length (dirD fb d) rfl HM.out.owns HL.out _ _ _ rfl rfl hkey.out _ [] (ptrElem_some p) ?_)
  intro w1 ho hg
  have H := Aside0.mk (HM.out.put (w' := w1) (k := nm.data.toList) HF.out (by rw [HP.out]; exact ho))
  have HO := Aside0.mk (Only.of_grown (S := fun k => k = b) hg (fun k hk => by cases hk; rfl))
  clear ho hg
  go_wp2
  go_end0
  exact ⟨rfl, H.out, HO.out⟩
set_option maxHeartbeats 1000000 in
theorem rm_run (b1 : Nat) (nm : ByteArray) (h2 : w.heap[b1]? = some (.cells #[.string nm] 9 (0, 0))) (hs : nm.size ≤ maxLen) (hM : MapR w own fb b d) :
    Calls Try.prog 62 #[.map (some b), .pointer (some ⟨b1, 0, none⟩)] w fun e w' => e = .returned (.tuple #[]) ∧ MapR w' own fb b (dDel d nm.data.toList) ∧ Only w w' (· = b) := by
  have c1 := cells_of h2 0 rfl
  have HM := Aside0.mk hM
  have hkey := Aside0.mk (Go.WideMaps.keyOf_string_mk Try.underlying9 hs)
  clear h2 hM hs
  go_enter Try.func62, Try.ntmps62
  go_wp2_with (at_delete; refine wpList_delete_own _ rfl _ _ 61 9 rfl 56 strKey Try.underlying61 ptrElem b d.length (dirD fb d) rfl HM.out.owns _ _ rfl hkey.out ?_)
  intro w1 ho hg
  have H := Aside0.mk (HM.out.del (w' := w1) ho)
  have HO := Aside0.mk (Only.of_grown (S := fun k => k = b) hg.grown (fun k hk => by cases hk; rfl))
  clear ho hg
  go_wp2
  go_end0
  exact ⟨rfl, H.out, HO.out⟩
set_option maxHeartbeats 1000000 in
theorem ren_run (b1 b2 : Nat) (na nb : ByteArray) (f : Nat) (h1 : w.heap[b1]? = some (.cells #[.string na] 9 (0, 0))) (h2 : w.heap[b2]? = some (.cells #[.string nb] 9 (0, 0))) (hsa : na.size ≤ maxLen) (hsb : nb.size ≤ maxLen) (hM : MapR w own fb b d) (hg : dGet d na.data.toList = some f) (hl : d.length < maxLen) :
    Calls Try.prog 61 #[.map (some b), .pointer (some ⟨b1, 0, none⟩), .pointer (some ⟨b2, 0, none⟩)] w fun e w' => e = .returned (.tuple #[]) ∧ MapR w' own fb b (dDel (dPut d nb.data.toList f) na.data.toList) ∧ Only w w' (· = b) := by
  have c1 := cells_of h1 0 rfl
  have c2 := cells_of h2 0 rfl
  have hlk := look hM na hsa
  rw [hg] at hlk
  simp only [Option.map_some, ptrV] at hlk
  have HM := Aside0.mk hM
  have HL := Aside0.mk hl
  have HF := Aside0.mk (hM.val _ (dGet_mem hg))
  have ka := Aside0.mk (Go.WideMaps.keyOf_string_mk Try.underlying9 hsa)
  have kb := Aside0.mk (Go.WideMaps.keyOf_string_mk Try.underlying9 hsb)
  have H1 := Aside0.mk h1
  have HNE := Aside0.mk (ne_map h1 hM.owns)
  clear h1 h2 hM hl hsa hsb hg
  obtain ⟨p, hp⟩ : ∃ p, fbG fb f = p := ⟨_, rfl⟩
  have HP := Aside0.mk hp
  rw [hp] at hlk
  clear hp
  go_enter Try.func61, Try.ntmps61
  go_wp2_with (at_mapUpdate; refine wpList_mapUpdate_own _ rfl _ _ _ 61 rfl 9 56 strKey Try.underlying61 ptrElem b d.length (dirD fb d) rfl HM.out.owns HL.out _ _ _ rfl rfl kb.out _ [] (ptrElem_some p) ?_)
  intro w1 ho hg
  have H := Aside0.mk (HM.out.put (w' := w1) (k := nb.data.toList) HF.out (by rw [HP.out]; exact ho))
  have HO := Aside0.mk (Only.of_grown (S := fun k => k = b) hg (fun k hk => by cases hk; rfl))
  have c1' : w1.cell? ⟨b1, 0, none⟩ = some (.string na) := cells_of ((hg.block b1 (Array.getElem?_eq_some_iff.1 H1.out).1 (fun e => HNE.out (Option.some.inj e))).trans H1.out) 0 rfl
  clear ho hg
  go_wp2_with (at_delete; refine wpList_delete_own _ rfl _ _ 61 9 rfl 56 strKey Try.underlying61 ptrElem b _ (dirD fb (dPut d nb.data.toList f)) rfl H.out.owns _ _ rfl ka.out ?_)
  intro w2 ho2 hg2
  have H2 := Aside0.mk (H.out.del (w' := w2) ho2)
  have HO2 := Aside0.mk (HO.out.trans (Only.of_grown (S := fun k => k = b) hg2.grown (fun k hk => by cases hk; rfl)) (fun _ _ h => h))
  clear ho2 hg2
  go_wp2
  go_end0
  exact ⟨rfl, H2.out, HO2.out⟩
/-- Any change's closure. -/
theorem clos_run {v : Value} {c : Chg} (hC : ClosR w own fb v c) (hok : c.ok fb.length d) (hM : MapR w own fb b d) (hl : d.length < maxLen) :
    ∃ g lb, v = .func (.func g) #[] lb ∧ (∀ args W, (callFunc g args).run Try.prog W = .ok (.enter g args) W) ∧ Calls Try.prog g (#[.map (some b)] ++ lb) w fun e w' => e = .returned (.tuple #[]) ∧ MapR w' own fb b (c.app d) ∧ Only w w' (· = b) := by
  cases c with
  | mk k f =>
    obtain ⟨b1, b2, nm, rfl, o1, o2, hf, h1, h2, rfl, hs⟩ := hC
    exact ⟨_, _, rfl, Go.Proofs.enters_of Try.func55 (by kernel_rfl) rfl, mk_run b1 b2 nm f h1 h2 hs hf hM hl⟩
  | ren x y =>
    obtain ⟨b1, b2, na, nb, rfl, o1, o2, h1, h2, rfl, rfl, hsa, hsb⟩ := hC
    obtain ⟨f, hf⟩ := Option.isSome_iff_exists.1 hok
    have h := ren_run b1 b2 na nb f h1 h2 hsa hsb hM hf hl
    refine ⟨_, _, rfl, Go.Proofs.enters_of Try.func61 (by kernel_rfl) rfl, ?_⟩
    have e : Chg.app d (.ren na.data.toList nb.data.toList) = dDel (dPut d nb.data.toList f) na.data.toList := by simp [Chg.app, hf]
    rw [e]
    exact h
  | rm x =>
    obtain ⟨b1, na, rfl, o1, h1, rfl, hs⟩ := hC
    exact ⟨_, _, rfl, Go.Proofs.enters_of Try.func62 (by kernel_rfl) rfl, rm_run b1 na h1 hs hM⟩
end
end Go.Proofs.Ytephblclhojffaa.A
