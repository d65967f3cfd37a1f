/- The reference's Remove, Rename, Create. The reference's files are written: Sync, Append. -/
import Derived.Test.YtephblclhojffaaAx0
import Derived.Test.YtephblclhojffaaAx1
import Derived.Test.YtephblclhojffaaHRefC
import Derived.Test.YtephblclhojffaaHRefA
namespace Go.Proofs.Ytephblclhojffaa.A
open Go.RowKit Go.Proofs.YtephblclhojffaaW.PrintWords Go.Proofs.YtephblclhojffaaW.PrintLast Go.Proofs.YtephblclhojffaaW.PrintMore
set_option linter.unusedVariables false
set_option linter.unusedSimpArgs false

section
variable {w w' w2 w3 : World} {own own' S : Nat → Prop} {rb : Nat} {fv dv sv cv : Value} {M M' : DM}
theorem WentR.after (h0 : Only w w2 own) (h : WentR w2 w3 own rb M') : WentR w w3 own rb M' := by
  obtain ⟨o, h1, h2, h3⟩ := h
  exact ⟨o, h1, fun k hk => (h2 k hk).imp id (fun e => Nat.le_trans h0.size e), h0.trans h3 (fun _ _ h => h)⟩
theorem WentR.after2 (h0 : Only w w2 own) (ho : ∀ k, own' k → own k ∨ w.heap.size ≤ k) (h : WentR w2 w3 own' rb M') : WentR w w3 own rb M' := by
  obtain ⟨o, h1, h2, h3⟩ := h
  exact ⟨o, h1, fun k hk => (h2 k hk).elim (ho k) (fun e => .inr (Nat.le_trans h0.size e)), h0.trans h3 (fun k hk hs => (ho k hs).elim id (fun e => by omega))⟩
set_option maxHeartbeats 4000000 in
theorem rRemove.calls (h : RefR w own rb fv dv sv cv M) (hc : Cnt M) (hB : BdR M) (nm : ByteArray) :
    Calls Try.prog 45 #[.pointer (some ⟨rb, 0, none⟩), .string nm] w fun e w' => e = .returned (.int .i64 (removeF M nm.data.toList).2) ∧ WentR w w' own rb (removeF M nm.data.toList).1 := by
  obtain ⟨A1, c1, rfl, -, -⟩ := Kd.R_reads h.dir
  have hcl := rcall.calls h hc
  have HO := Aside0.mk h.orb
  have HBD := Aside0.mk hB
  by_cases he : callE M = 0
  · have HE := Aside0.mk he
    have bE : (callE M != 0) = false := by simp [he]
    rw [he] at hcl
    obtain ⟨R, hR⟩ : ∃ R, R = removeF M nm.data.toList := ⟨_, rfl⟩
    rw [← hR]
    have HRR := Aside0.mk hR
    clear h hc hB he hR bE
    go_enter Try.func45, Try.ntmps45
    go_wp2_with fail
    refine hcl.mono ?_
    rintro e w1 ⟨rfl, h1, h2, -⟩
    have H1 := Aside0.mk h1
    have HW1 := Aside0.mk (h2.mono (S' := own) (fun k _ e => e ▸ HO.out))
    have k1 := cells_of h1.blk 1 rfl
    have hat := at_calls (d := (tick M).dir) HBD.out.ri nm (by have : M.dir.length < 100000 := HBD.out.dl; show M.dir.length < _; omega) w1 h1.dir
    clear h1 h2 hcl
    go_wp2_with fail
    refine hat.mono ?_
    rintro e w2 ⟨r, rfl, har, hd⟩
    have HD := Aside0.mk hd.below
    clear hd hat k1
    rcases har with ⟨rfl, hg⟩ | ⟨i, rfl, hi, hn, hg⟩
    · have HQ : Aside0 (R = (tick M, 12)) := ⟨by rw [HRR.out]; unfold removeF; rw [if_neg (by simp [HE.out]), if_pos (by rw [show M.dir = (tick M).dir from rfl, hg]; rfl)]⟩
      have HF := Aside0.mk (WentR.same (H1.out.below HD.out) rfl (HW1.out.trans (Only.of_below HD.out own) (fun _ _ h => h)))
      clear hg
      go_wp2_with fail
      go_ret
      exact ⟨by rw [HQ.out]; rfl, by rw [HQ.out]; exact HF.out⟩
    · have HQ : Aside0 (R = ({ tick M with dir := Chg.app M.dir (.rm nm.data.toList), chg := M.chg ++ [.rm nm.data.toList] }, 0)) := ⟨by rw [HRR.out]; unfold removeF; rw [if_neg (by simp [HE.out]), if_neg (by rw [show M.dir = (tick M).dir from rfl, hg]; simp)]⟩
      have hch := rchange.calls (H1.out.below HD.out) ⟨HBD.out.ri, HBD.out.dl, HBD.out.dn, HBD.out.dv, HBD.out.cl⟩ (.rm nm.data.toList) trivial
      rw [show c90 (.rm nm.data.toList) = ⟨nm, ⟨#[]⟩, -1⟩ by simp [c90, bsS_back]] at hch
      simp only at hch
      have q0 : decide ((i : Int) < 0) = false := decide_eq_false (by omega)
      have HO2 := Aside0.mk (HW1.out.trans (Only.of_below HD.out own) (fun _ _ h => h))
      clear hg hi hn
      go_wp2_with fail
      refine hch.mono ?_
      rintro e w3 ⟨rfl, hw⟩
      have HF := Aside0.mk (WentR.after HO2.out hw)
      clear hw hch
      go_wp2_with fail
      go_ret
      exact ⟨by rw [HQ.out]; rfl, by rw [HQ.out]; exact HF.out⟩
  · have HE : Aside0 (removeF M nm.data.toList = (tick M, callE M)) := ⟨by unfold removeF; rw [if_pos he]⟩
    rw [HE.out]
    have hb : (callE M != 0) = true := by simpa using he
    clear h he hc hB
    generalize callE M = ce at *
    go_enter Try.func45, Try.ntmps45
    go_wp2_with fail
    refine hcl.mono ?_
    rintro e w1 ⟨rfl, h1, h2, -⟩
    have H := Aside0.mk h1
    have HW := Aside0.mk (h2.mono (S' := own) (fun k _ e => e ▸ HO.out))
    clear h1 h2 hcl
    go_wp2
    go_ret
    exact ⟨rfl, WentR.same H.out rfl HW.out⟩
theorem right_any (s : ByteArray) (hs : s.size ≤ 9223372036854775806) (w : World) :
    Calls Try.prog 33 #[.string s] w fun e w' => e = .returned (.bool (rightB s.data.toList)) ∧ Drawn0 w w' :=
  tithebarnref09_Right.calls (s.size + 1) s _ w (right_plain s hs)
set_option maxHeartbeats 4000000 in
theorem rRename.calls (h : RefR w own rb fv dv sv cv M) (hc : Cnt M) (hB : BdR M) (na nb : ByteArray) (hsb : nb.size ≤ 9223372036854775806) :
    Calls Try.prog 44 #[.pointer (some ⟨rb, 0, none⟩), .string na, .string nb] w fun e w' => e = .returned (.int .i64 (renameF M na.data.toList nb.data.toList).2) ∧ WentR w w' own rb (renameF M na.data.toList nb.data.toList).1 := by
  obtain ⟨A1, c1, rfl, -, -⟩ := Kd.R_reads h.dir
  have hcl := rcall.calls h hc
  have HO := Aside0.mk h.orb
  have HBD := Aside0.mk hB
  have hri := fun W => right_any nb hsb W
  by_cases he : callE M = 0
  · have HE := Aside0.mk he
    rw [he] at hcl
    obtain ⟨R, hR⟩ : ∃ R, R = renameF M na.data.toList nb.data.toList := ⟨_, rfl⟩
    rw [← hR]
    have HRR := Aside0.mk hR
    have HRI := Aside0.mk hri
    clear h hc hB he hR hri hsb
    go_enter Try.func44, Try.ntmps44
    go_wp2_with fail
    refine hcl.mono ?_
    rintro e w1 ⟨rfl, h1, h2, -⟩
    have H1 := Aside0.mk h1
    have HW1 := Aside0.mk (h2.mono (S' := own) (fun k _ e => e ▸ HO.out))
    have k1 := cells_of h1.blk 1 rfl
    have hat := at_calls (d := (tick M).dir) HBD.out.ri na (by have : M.dir.length < 100000 := HBD.out.dl; show M.dir.length < _; omega) w1 h1.dir
    clear h1 h2 hcl
    go_wp2_with fail
    refine hat.mono ?_
    rintro e w2 ⟨r, rfl, har, hd⟩
    have HD := Aside0.mk hd.below
    clear hd hat k1
    rcases har with ⟨rfl, hg⟩ | ⟨i, rfl, hi, hn, hg⟩
    · have HQ : Aside0 (R = (tick M, 12)) := ⟨by rw [HRR.out]; unfold renameF; rw [if_neg (by simp [HE.out]), if_pos (by rw [show M.dir = (tick M).dir from rfl, hg]; rfl)]⟩
      have HF := Aside0.mk (WentR.same (H1.out.below HD.out) rfl (HW1.out.trans (Only.of_below HD.out own) (fun _ _ h => h)))
      clear hg
      go_wp2_with fail
      go_ret
      exact ⟨by rw [HQ.out]; rfl, by rw [HQ.out]; exact HF.out⟩
    · have hri := HRI.out w2
      have q0 : decide ((i : Int) < 0) = false := decide_eq_false (by omega)
      have HG := Aside0.mk hg
      clear hg hi hn
      cases hr : rightB nb.data.toList with
      | false =>
        rw [hr] at hri
        have HQ : Aside0 (R = (tick M, 12)) := ⟨by rw [HRR.out]; unfold renameF; rw [if_neg (by simp [HE.out]), if_pos (by rw [hr]; simp)]⟩
        clear hr
        go_wp2_with fail
        refine hri.mono ?_
        rintro e w3 ⟨rfl, hd3⟩
        have HD3 := Aside0.mk (HD.out.trans (hd3.below.mono HD.out.size))
        have HF := Aside0.mk (WentR.same (H1.out.below HD3.out) rfl (HW1.out.trans (Only.of_below HD3.out own) (fun _ _ h => h)))
        clear hd3 hri
        go_wp2_with fail
        go_ret
        exact ⟨by rw [HQ.out]; rfl, by rw [HQ.out]; exact HF.out⟩
      | true =>
        rw [hr] at hri
        have HR := Aside0.mk hr
        clear hr
        by_cases hab : na.data.toList = nb.data.toList
        · have bq : (na.toList == nb.toList) = true := by rw [ByteArray.toList_eq, ByteArray.toList_eq]; simpa using hab
          have HQ : Aside0 (R = (tick M, 12)) := ⟨by rw [HRR.out]; unfold renameF; rw [if_neg (by simp [HE.out]), if_pos (by simp [hab])]⟩
          clear hab
          go_wp2_with fail
          refine hri.mono ?_
          rintro e w3 ⟨rfl, hd3⟩
          have HD3 := Aside0.mk (HD.out.trans (hd3.below.mono HD.out.size))
          have HF := Aside0.mk (WentR.same (H1.out.below HD3.out) rfl (HW1.out.trans (Only.of_below HD3.out own) (fun _ _ h => h)))
          clear hd3 hri
          go_wp2_with fail
          go_ret
          exact ⟨by rw [HQ.out]; rfl, by rw [HQ.out]; exact HF.out⟩
        · have bq : (na.toList == nb.toList) = false := by rw [ByteArray.toList_eq, ByteArray.toList_eq]; simpa using hab
          have HQ : Aside0 (R = ({ tick M with dir := Chg.app M.dir (.ren na.data.toList nb.data.toList), chg := M.chg ++ [.ren na.data.toList nb.data.toList] }, 0)) := ⟨by
            rw [HRR.out]; unfold renameF; rw [if_neg (by simp [HE.out]), if_neg (by rw [show M.dir = (tick M).dir from rfl, HG.out, HR.out, show (na.data.toList == nb.data.toList) = false from beq_eq_false_iff_ne.2 hab]; simp)]⟩
          have hlen : 1 ≤ nb.data.toList.length ∧ nb.data.toList.length ≤ 12 := by have h := HR.out; unfold rightB at h; simp at h; simp; omega
          have HCH := Aside0.mk (fun W (hb : Below w1.heap.size w1 W) => rchange.calls (H1.out.below hb) ⟨HBD.out.ri, HBD.out.dl, HBD.out.dn, HBD.out.dv, HBD.out.cl⟩ (.ren na.data.toList nb.data.toList) ⟨fun e => by rw [e] at hlen; simp at hlen, hab, by omega⟩)
          clear hlen hab
          go_wp2_with fail
          refine hri.mono ?_
          rintro e w3 ⟨rfl, hd3⟩
          have HD3 := Aside0.mk (HD.out.trans (hd3.below.mono HD.out.size))
          have hch := HCH.out w3 HD3.out
          rw [show c90 (.ren na.data.toList nb.data.toList) = ⟨na, nb, 0⟩ by simp [c90, bsS_back]] at hch
          simp only at hch
          have HO2 := Aside0.mk (HW1.out.trans (Only.of_below HD3.out own) (fun _ _ h => h))
          clear hd3 hri
          go_wp2_with fail
          refine hch.mono ?_
          rintro e w4 ⟨rfl, hw⟩
          have HF := Aside0.mk (WentR.after HO2.out hw)
          clear hw hch
          go_wp2_with fail
          go_ret
          exact ⟨by rw [HQ.out]; rfl, by rw [HQ.out]; exact HF.out⟩
  · have HE : Aside0 (renameF M na.data.toList nb.data.toList = (tick M, callE M)) := ⟨by unfold renameF; rw [if_pos he]⟩
    rw [HE.out]
    have hb : (callE M != 0) = true := by simpa using he
    clear h he hc hB hri hsb
    generalize callE M = ce at *
    go_enter Try.func44, Try.ntmps44
    go_wp2_with fail
    refine hcl.mono ?_
    rintro e w1 ⟨rfl, h1, h2, -⟩
    have H := Aside0.mk h1
    have HW := Aside0.mk (h2.mono (S' := own) (fun k _ e => e ▸ HO.out))
    clear h1 h2 hcl
    go_wp2
    go_ret
    exact ⟨rfl, WentR.same H.out rfl HW.out⟩
theorem info77 : (Try.prog.info? 77).map (fun i => (i.zero, i.size, i.bytes)) = some (some (.agg #[(.string ⟨#[]⟩), (.int .i64 0)]), 2, 24) := by kernel_rfl
theorem RefR.files1 (h : RefR w own rb fv dv sv cv M) {w4 : World} {A4 : Option Addr} {n4 c4 : Nat} (hg : w.grownBy w4 fv.ownBlock) (hr : Kd.R k77 77 w4 0 (fun k => own k ∨ w.heap.size ≤ k) (.slice A4 n4 c4) (M.files.map f77 ++ [⟨⟨#[]⟩, 0⟩])) :
    ∃ own', RefR (w4.setCell ⟨rb, 0, none⟩ (.slice A4 n4 c4)) own' rb (.slice A4 n4 c4) dv sv cv { M with files := M.files ++ [([], 0)] } ∧ (∀ k, own' k → own k ∨ w.heap.size ≤ k) ∧ Only w (w4.setCell ⟨rb, 0, none⟩ (.slice A4 n4 c4)) own := by
  have hne : some rb ≠ fv.ownBlock := Kd.R_ne h.files h.blk (by decide)
  have hrl : rb < w.heap.size := (Array.getElem?_eq_some_iff.1 h.blk).1
  have hb4 := (hg.block rb hrl hne).trans h.blk
  have g1 := Kd.R_grown2 h.dir rfl hg (rows_ne h.files h.dir (by decide))
  have g2 := Kd.R_grown2 h.sdir rfl hg (rows_ne h.files h.sdir (by decide))
  have g3 := Kd.R_grown2 h.chg rfl hg (rows_ne h.files h.chg (by decide))
  have s0 := Kd.R_set hr hb4 (by decide) 0 (.slice A4 n4 c4)
  have s1 := Kd.R_set g1 hb4 (by decide) 0 (.slice A4 n4 c4)
  have s2 := Kd.R_set g2 hb4 (by decide) 0 (.slice A4 n4 c4)
  have s3 := Kd.R_set g3 hb4 (by decide) 0 (.slice A4 n4 c4)
  have hb5 := heap_set hb4 0 (.slice A4 n4 c4)
  refine ⟨fun k => (own k ∨ w.heap.size ≤ k) ∧ k < (w4.setCell ⟨rb, 0, none⟩ (.slice A4 n4 c4)).heap.size, ⟨⟨.inl h.orb, (Array.getElem?_eq_some_iff.1 hb5).1⟩, hb5, ?_, ?_, ?_, ?_, fun k hk => hk.2⟩, fun k hk => hk.1, ?_⟩
  · rw [List.map_append, List.map_singleton]
    exact Kd.R_mono (Kd.R_bound s0) (fun k hk => ⟨hk.1, hk.2.2.1⟩)
  · exact Kd.R_mono (Kd.R_bound s1) (fun k hk => ⟨.inl hk.1, hk.2.2.1⟩)
  · exact Kd.R_mono (Kd.R_bound s2) (fun k hk => ⟨.inl hk.1, hk.2.2.1⟩)
  · exact Kd.R_mono (Kd.R_bound s3) (fun k hk => ⟨.inl hk.1, hk.2.2.1⟩)
  · exact (Only.of_grown hg (fun k hk => h.files.1 k hk)).trans (Only.setCell (w := w4) (S := own) (a := ⟨rb, 0, none⟩) h.orb (.slice A4 n4 c4)) (fun _ _ h => h)
set_option maxRecDepth 100000 in
set_option maxHeartbeats 4000000 in
theorem rCreate.calls (h : RefR w own rb fv dv sv cv M) (hc : Cnt M) (hB : BdR M) (hfl : M.files.length < 100000) (nm : ByteArray) (hs : nm.size ≤ 4611686018427387903) :
    Calls Try.prog 41 #[.pointer (some ⟨rb, 0, none⟩), .string nm] w fun e w' => e = .returned (.int .i64 (createF M nm.data.toList).2) ∧ WentR w w' own rb (createF M nm.data.toList).1 := by
  have hu77 := Try.underlying77
  obtain ⟨A1, c1, rfl, -, -⟩ := Kd.R_reads h.dir
  obtain ⟨A0, c0, hfv, -, -⟩ := Kd.R_reads h.files
  rw [List.length_map] at hfv
  subst hfv
  have hcl := rcall.calls h hc
  have HO := Aside0.mk h.orb
  have HBD := Aside0.mk hB
  have hri := fun W => right_any nm (by omega) W
  have HSZ := Aside0.mk hs; have HFL := Aside0.mk hfl
  by_cases he : callE M = 0
  · have HE := Aside0.mk he
    rw [he] at hcl
    obtain ⟨R, hR⟩ : ∃ R, R = createF M nm.data.toList := ⟨_, rfl⟩
    rw [← hR]
    have HRR := Aside0.mk hR
    have HRI := Aside0.mk hri
    clear h hc hB he hR hri hs hfl
    go_enter Try.func41, Try.ntmps41
    go_wp2_with fail
    refine hcl.mono ?_
    rintro e w1 ⟨rfl, h1, h2, -⟩
    have H1 := Aside0.mk h1
    have HW1 := Aside0.mk (h2.mono (S' := own) (fun k _ e => e ▸ HO.out))
    have hri := HRI.out w1
    clear h1 h2 hcl
    cases hr : rightB nm.data.toList with
    | false =>
      rw [hr] at hri
      have HQ : Aside0 (R = (tick M, 12)) := ⟨by rw [HRR.out]; unfold createF; rw [if_neg (by simp [HE.out]), if_pos (by rw [hr]; simp)]⟩
      clear hr
      go_wp2_with fail
      refine hri.mono ?_
      rintro e w3 ⟨rfl, hd3⟩
      have HD3 := Aside0.mk hd3.below
      have HF := Aside0.mk (WentR.same (H1.out.below HD3.out) rfl (HW1.out.trans (Only.of_below HD3.out own) (fun _ _ h => h)))
      clear hd3 hri
      go_wp2_with fail
      go_ret
      exact ⟨by rw [HQ.out]; rfl, by rw [HQ.out]; exact HF.out⟩
    | true =>
      rw [hr] at hri
      have HR := Aside0.mk hr
      clear hr
      go_wp2_with fail
      refine hri.mono ?_
      rintro e w2 ⟨rfl, hd2⟩
      have HD2 := Aside0.mk hd2.below
      have H2 := Aside0.mk (H1.out.below HD2.out)
      have k1 := cells_of H2.out.blk 1 rfl
      have hat := at_calls (d := (tick M).dir) HBD.out.ri nm (by have : M.dir.length < 100000 := HBD.out.dl; show M.dir.length < _; omega) w2 H2.out.dir
      clear hd2 hri
      go_wp2_with fail
      refine hat.mono ?_
      rintro e w3 ⟨r, rfl, har, hd⟩
      have HD3 := Aside0.mk hd.below
      have H3 := Aside0.mk (H2.out.below HD3.out)
      have HW3 := Aside0.mk ((HW1.out.trans (Only.of_below HD2.out own) (fun _ _ h => h)).trans (Only.of_below HD3.out own) (fun _ _ h => h))
      clear hd hat k1
      rcases har with ⟨rfl, hg⟩ | ⟨i, rfl, hi, hn, hg⟩
      · have HQ : Aside0 (R = ({ tick M with files := M.files ++ [([], 0)], dir := dPut M.dir nm.data.toList M.files.length, chg := M.chg ++ [.mk nm.data.toList M.files.length] }, 0)) := ⟨by
          rw [HRR.out]; unfold createF; rw [if_neg (by simp [HE.out]), if_neg (by rw [show M.dir = (tick M).dir from rfl, hg, HR.out]; simp)]⟩
        clear hg
        have q0 : decide ((0 : Int) ≤ -1) = false := by decide
        have k0 := cells_of H3.out.blk 0 rfl
        have f0 := free_of H3.out.blk 0
        have hbl := H3.out.blk
        have HBL := Aside0.mk hbl
        have HNR : Aside0 (some rb ≠ (Value.slice A0 M.files.length c0).ownBlock) := ⟨Kd.R_ne H3.out.files hbl (by decide)⟩
        clear hbl
        go_wp2_with (first | ((with_reducible refine gate_builtin (b := .append) (xs := #[.tmp 27, .tmp 29]) rfl ?_); at_builtin; refine Kd.R_append k77 (w0 := w3) 0 rfl (.tmp 27) (.tmp 29) 71 77 (.agg #[(.string ⟨#[]⟩), (.int .i64 0)]) 24 rfl Try.underlying71 info77 rfl (by decide) (by omega) (.slice A0 M.files.length c0) (M.files.map f77) (⟨⟨#[]⟩, 0⟩ : F77) [.string ⟨#[]⟩, .int .i64 0] (fun k => own k ∨ w3.heap.size ≤ k) (fun _ => False) rfl rfl (k77_mkM _ _ _ _) (fun _ hk => hk.elim) (fun k hk => .inr hk) (Kd.R_mono H3.out.files (fun k hk => .inl hk)) (Below.refl _ _) (Nat.zero_le _) (by rw [List.length_map]; have := HFL.out; omega) ?_; intro v4 w4 hr4 hb4 hg4 hat4; (have HR4 := Aside0.mk hr4); (have HG4 := Aside0.mk hg4); (obtain ⟨A4, c4, hv4, -, -⟩ := Kd.R_reads hr4); (rw [List.length_append, List.length_map, List.length_singleton] at hv4); subst hv4; (have hb4' := (hg4.block rb (Array.getElem?_eq_some_iff.1 HBL.out).1 HNR.out).trans HBL.out); (have hk0 := cells_of hb4' 0 rfl); (have hf0 := free_of hb4' 0); clear hr4 hb4 hg4 hat4 hb4'))
        obtain ⟨own5, H5, ho5, hW5⟩ := H3.out.files1 HG4.out HR4.out
        have hch := rchange.calls (M := { tick M with files := (tick M).files ++ [([], 0)] }) H5 ⟨HBD.out.ri, HBD.out.dl, HBD.out.dn, HBD.out.dv, HBD.out.cl⟩ (.mk nm.data.toList M.files.length) ⟨by rw [Array.length_toList]; have := HSZ.out; show nm.size < _; omega, by have := HFL.out; omega⟩
        rw [show c90 (.mk nm.data.toList M.files.length) = ⟨nm, ⟨#[]⟩, (M.files.length : Int)⟩ by simp [c90, bsS_back]] at hch
        simp only at hch
        have hw64 : wrap64 (M.files.length : Int) = (M.files.length : Int) := by have := HFL.out; unfold wrap64; omega
        rw [hw64]
        have HH5 := Aside0.mk ho5; have HW5 := Aside0.mk hW5
        clear H5 ho5 hW5 hk0 hf0 hw64
        refine hch.mono ?_
        rintro e w6 ⟨rfl, hw⟩
        have HF := Aside0.mk (WentR.after HW3.out (WentR.after2 HW5.out HH5.out hw))
        clear hw hch
        go_wp2_with fail
        go_ret
        exact ⟨by rw [HQ.out]; rfl, by rw [HQ.out]; exact HF.out⟩
      · have HQ : Aside0 (R = (tick M, 12)) := ⟨by rw [HRR.out]; unfold createF; rw [if_neg (by simp [HE.out]), if_pos (by rw [show M.dir = (tick M).dir from rfl, hg]; rfl)]⟩
        have HF := Aside0.mk (WentR.same H3.out rfl HW3.out)
        have q0 : decide ((0 : Int) ≤ (i : Int)) = true := decide_eq_true (by omega)
        clear hg hi hn
        go_wp2_with fail
        go_ret
        exact ⟨by rw [HQ.out]; rfl, by rw [HQ.out]; exact HF.out⟩
  · have HE : Aside0 (createF M nm.data.toList = (tick M, callE M)) := ⟨by unfold createF; rw [if_pos he]⟩
    rw [HE.out]
    have hb : (callE M != 0) = true := by simpa using he
    clear h he hc hB hri hs hfl
    generalize callE M = ce at *
    go_enter Try.func41, Try.ntmps41
    go_wp2_with fail
    refine hcl.mono ?_
    rintro e w1 ⟨rfl, h1, h2, -⟩
    have H := Aside0.mk h1
    have HW := Aside0.mk (h2.mono (S' := own) (fun k _ e => e ▸ HO.out))
    clear h1 h2 hcl
    go_wp2
    go_ret
    exact ⟨rfl, WentR.same H.out rfl HW.out⟩
end
end Go.Proofs.Ytephblclhojffaa.A
namespace Go.Proofs.Ytephblclhojffaa.A
open Go.RowKit Go.Proofs.YtephblclhojffaaW.PrintWords Go.Proofs.YtephblclhojffaaW.PrintLast Go.Proofs.YtephblclhojffaaW.PrintMore
set_option linter.unusedVariables false
set_option linter.unusedSimpArgs false

section
variable {w w' : World} {own : Nat → Prop} {rb : Nat} {fv dv sv cv : Value} {M M' : DM}
theorem f77_elem {l : List F77} {g n cap : Nat} (h : Kd.R k77 77 w 0 own (.slice (some ⟨g, 0, none⟩) n cap) l) (q : Nat) (hq : q < n) :
    w.cell? ⟨g, q * 2, none⟩ = some (.string (rd77 l q).f0) ∧ w.cell? ⟨g, q * 2 + 1, none⟩ = some (.int .i64 (rd77 l q).f1) ∧ w.frozen? ⟨g, q * 2, none⟩ = false ∧ w.frozen? ⟨g, q * 2 + 1, none⟩ = false := by
  obtain ⟨c, hcl, hM, hcc, hf⟩ := Kd.R_elem h z77 (q : Int) (by omega) (by omega)
  obtain rfl := k77_openM hM
  have a0 := hcc 0 _ rfl
  have a1 := hcc 1 _ rfl
  rw [Int.toNat_natCast] at a0 a1
  have f0 := hf 0
  have f1 := hf 1
  rw [Int.toNat_natCast] at f0 f1
  exact ⟨a0, a1, f0, f1⟩
theorem f77_sure {l : List F77} {g n cap : Nat} (h : Kd.R k77 77 w 0 own (.slice (some ⟨g, 0, none⟩) n cap) l) (q : Nat) (hq : q < n) (s : Int) :
    Kd.R k77 77 (w.setCell ⟨g, q * 2 + 1, none⟩ (.int .i64 s)) 0 own (.slice (some ⟨g, 0, none⟩) n cap) (l.set q ⟨(rd77 l q).f0, s⟩) ∧ w.grownBy (w.setCell ⟨g, q * 2 + 1, none⟩ (.int .i64 s)) (some g) := by
  obtain ⟨c, hcl, hM, hcc, hf⟩ := Kd.R_elem h z77 (q : Int) (by omega) (by omega)
  obtain rfl := k77_openM hM
  have := Kd.R_seg (x' := ⟨(rd77 l q).f0, s⟩) (okp := fun _ => False) (seg := [.int .i64 s]) (j := 1) h (q : Int) (by omega) (by omega) hcl hcc (by show 1 + 1 ≤ 2; omega) (k77_mkM _ _ _ _) (fun _ h => h.elim)
  rw [Int.toNat_natCast] at this
  exact this
theorem f77_text {l : List F77} {g n cap : Nat} (h : Kd.R k77 77 w 0 own (.slice (some ⟨g, 0, none⟩) n cap) l) (q : Nat) (hq : q < n) (s : ByteArray) :
    Kd.R k77 77 (w.setCell ⟨g, q * 2, none⟩ (.string s)) 0 own (.slice (some ⟨g, 0, none⟩) n cap) (l.set q ⟨s, (rd77 l q).f1⟩) ∧ w.grownBy (w.setCell ⟨g, q * 2, none⟩ (.string s)) (some g) := by
  obtain ⟨c, hcl, hM, hcc, hf⟩ := Kd.R_elem h z77 (q : Int) (by omega) (by omega)
  obtain rfl := k77_openM hM
  have := Kd.R_seg (x' := ⟨s, (rd77 l q).f1⟩) (okp := fun _ => False) (seg := [.string s]) (j := 0) h (q : Int) (by omega) (by omega) hcl hcc (by show 0 + 1 ≤ 2; omega) (k77_mkM _ _ _ _) (fun _ h => h.elim)
  rw [Int.toNat_natCast] at this
  exact this
/-- A file is another; all else stays. -/
theorem RefR.fileSet {g n cap : Nat} (h : RefR w own rb (.slice (some ⟨g, 0, none⟩) n cap) dv sv cv M) (hg : w.grownBy w' (some g)) (F : List (Bs × Nat)) (hr : Kd.R k77 77 w' 0 own (.slice (some ⟨g, 0, none⟩) n cap) (F.map f77)) :
    RefR w' own rb (.slice (some ⟨g, 0, none⟩) n cap) dv sv cv { M with files := F } ∧ Only w w' own := by
  have hne : some rb ≠ (Value.slice (some ⟨g, 0, none⟩) n cap).ownBlock := Kd.R_ne h.files h.blk (by decide)
  have hrl : rb < w.heap.size := (Array.getElem?_eq_some_iff.1 h.blk).1
  refine ⟨⟨h.orb, (hg.block rb hrl hne).trans h.blk, hr, ?_, ?_, ?_, fun k hk => Nat.lt_of_lt_of_le (h.lt k hk) hg.size⟩, Only.of_grown hg (fun k hk => h.files.1 k hk)⟩
  · exact Kd.R_grown2 h.dir rfl hg (rows_ne h.files h.dir (by decide))
  · exact Kd.R_grown2 h.sdir rfl hg (rows_ne h.files h.sdir (by decide))
  · exact Kd.R_grown2 h.chg rfl hg (rows_ne h.files h.chg (by decide))
theorem bsS_app (a : Bs) (s : ByteArray) : bsS (a ++ s.data.toList) = bsS a ++ s := by
  apply ByteArray.ext
  apply Array.ext'
  simp [bsS]
theorem map_modify (F : List (Bs × Nat)) (q : Nat) (hq : q < F.length) (g : Bs × Nat → Bs × Nat) : (F.modify q g).map f77 = (F.map f77).set q (f77 (g (F.getD q ([], 0)))) := by
  apply List.ext_getElem?
  intro i
  simp only [List.getElem?_map, List.getElem?_modify, List.getElem?_set, List.length_map]
  by_cases e : q = i
  · subst e
    simp [hq, List.getD_eq_getElem?_getD]
  · simp [e]
set_option maxRecDepth 100000 in
set_option maxHeartbeats 4000000 in
theorem rSync.calls (h : RefR w own rb fv dv sv cv M) (hc : Cnt M) (hB : BdR M) (hv : ∀ p ∈ M.dir, p.2 < M.files.length) (nm : ByteArray) :
    Calls Try.prog 43 #[.pointer (some ⟨rb, 0, none⟩), .string nm] w fun e w' => e = .returned (.int .i64 (syncF M nm.data.toList).2) ∧ WentR w w' own rb (syncF M nm.data.toList).1 := by
  obtain ⟨A1, c1, rfl, hcc, -⟩ := Kd.R_reads h.dir
  have hcl := rcall.calls h hc
  have HO := Aside0.mk h.orb
  have HBD := Aside0.mk hB
  have HV := Aside0.mk hv
  by_cases he : callE M = 0
  · have HE := Aside0.mk he
    rw [he] at hcl
    obtain ⟨R, hR⟩ : ∃ R, R = syncF M nm.data.toList := ⟨_, rfl⟩
    rw [← hR]
    have HRR := Aside0.mk hR
    clear h hc hB he hR hv
    go_enter Try.func43, Try.ntmps43
    go_wp2_with fail
    refine hcl.mono ?_
    rintro e w1 ⟨rfl, h1, h2, -⟩
    have H1 := Aside0.mk h1
    have HW1 := Aside0.mk (h2.mono (S' := own) (fun k _ e => e ▸ HO.out))
    have k1 := cells_of h1.blk 1 rfl
    have hat := at_calls (d := (tick M).dir) HBD.out.ri nm (by have : M.dir.length < 100000 := HBD.out.dl; show M.dir.length < _; omega) w1 h1.dir
    clear h1 h2 hcl
    go_wp2_with fail
    refine hat.mono ?_
    rintro e w2 ⟨r, rfl, har, hd⟩
    have HD := Aside0.mk hd.below
    clear hd hat k1
    rcases har with ⟨rfl, hg⟩ | ⟨i, rfl, hi, hn, hg⟩
    · have HQ : Aside0 (R = (tick M, 12)) := ⟨by rw [HRR.out]; unfold syncF; rw [if_neg (by simp [HE.out])]; rw [show M.dir = (tick M).dir from rfl, hg]⟩
      have HF := Aside0.mk (WentR.same (H1.out.below HD.out) rfl (HW1.out.trans (Only.of_below HD.out own) (fun _ _ h => h)))
      clear hg
      go_wp2_with fail
      go_ret
      exact ⟨by rw [HQ.out]; rfl, by rw [HQ.out]; exact HF.out⟩
    · obtain ⟨q, hq⟩ : ∃ q, q = (M.dir.getD i ([], 0)).2 := ⟨_, rfl⟩
      have hgq : dGet M.dir nm.data.toList = some q := by rw [hq]; exact hg
      have HQ : Aside0 (R = ({ tick M with files := M.files.modify q fun f => (f.1, f.1.length) }, 0)) := ⟨by rw [HRR.out]; unfold syncF; rw [if_neg (by simp [HE.out])]; simp only [hgq]⟩
      have hqf : q < M.files.length := HV.out _ (dGet_mem hgq)
      have H2 := H1.out.below HD.out
      obtain ⟨A0, c0, hfv, hc0, -⟩ := Kd.R_reads H2.files
      have hlen : ((tick M).files.map f77).length = M.files.length := by rw [List.length_map]; rfl
      rw [hlen] at hfv hc0
      obtain ⟨g, hgA⟩ : ∃ g, A0 = some ⟨g, 0, none⟩ := by
        obtain ⟨ad, c', e⟩ := Kd.R_slice1 H2.files (by rw [hlen]; omega)
        rw [hfv] at e
        injection e with e1 _ _
        have h5 := H2.files
        rw [hfv, e1] at h5
        obtain ⟨g, hh⟩ := Kd.R_head h5
        exact ⟨g, by rw [e1, hh]⟩
      subst hgA hfv
      obtain ⟨x0, x1, y0, y1⟩ := f77_elem H2.files q hqf
      have hmm := map_modify M.files q hqf (fun f => (f.1, f.1.length))
      have hr0 : rd77 ((tick M).files.map f77) (q : Int) = ⟨bsS (M.files.getD q ([], 0)).1, ((M.files.getD q ([], 0)).2 : Int)⟩ := rd77_at (tick M) q
      rw [hr0] at x0 x1
      simp only at x0 x1
      have hset := f77_sure H2.files q hqf ((bsS (M.files.getD q ([], 0)).1).size : Int)
      rw [hr0] at hset
      simp only at hset
      have hf77 : f77 ((M.files.getD q ([], 0)).1, (M.files.getD q ([], 0)).1.length) = ⟨bsS (M.files.getD q ([], 0)).1, ((bsS (M.files.getD q ([], 0)).1).size : Int)⟩ := by rw [bsS_size]; rfl
      obtain ⟨H4, hW4⟩ := H2.fileSet hset.2 (M.files.modify q fun f => (f.1, f.1.length)) (by rw [hmm, hf77]; exact hset.1)
      have hk0 := cells_of H4.blk 0 rfl
      obtain ⟨hk1, -, -, -⟩ := f77_elem H4.files q hqf
      have hr1 : (rd77 ((M.files.modify q fun f => (f.1, f.1.length)).map f77) (q : Int)).f0 = bsS (M.files.getD q ([], 0)).1 := by
        rw [hmm, hf77]; unfold rd77; rw [Int.toNat_natCast]; simp [hqf]
      rw [hr1] at hk1
      obtain ⟨A', c', e', -, hC'⟩ := Kd.R_reads H2.dir
      have hdl : (dirS (tick M).dir).length = M.dir.length := dirS_len M.dir
      rw [show (dirS (tick M).dir).length = (dirS M.dir).length from rfl] at e'
      simp only [Value.slice.injEq] at e'
      obtain ⟨rfl, -, rfl⟩ := e'
      obtain ⟨a1, e1, d0, d1⟩ := at_T79 hC' (i : Int) (by omega) (by rw [hdl]; have : i < M.dir.length := hi; omega)
      rw [dirS_at, Int.toNat_natCast] at d0 d1
      simp only [show (tick M).dir = M.dir from rfl, ← hq] at d0 d1
      subst e1
      have k0 := cells_of H2.blk 0 rfl
      have k1 := cells_of H2.blk 1 rfl
      have HF := Aside0.mk (fun (W : World) (hb : Below (w2.setCell ⟨g, q * 2 + 1, none⟩ (.int .i64 (bsS (M.files.getD q ([], 0)).1).size)).heap.size (w2.setCell ⟨g, q * 2 + 1, none⟩ (.int .i64 (bsS (M.files.getD q ([], 0)).1).size)) W) =>
        WentR.same (M' := { tick M with files := M.files.modify q fun f => (f.1, f.1.length) }) (H4.below hb) rfl (((HW1.out.trans (Only.of_below HD.out own) (fun _ _ h => h)).trans hW4 (fun _ _ h => h)).trans (Only.of_below hb own) (fun _ _ h => h)))
      have b0 : 0 ≤ (i : Int) := by omega
      have b1 : (i : Int) < ((dirS M.dir).length : Int) := by rw [dirS_len]; have : i < M.dir.length := hi; omega
      have b2 : 0 ≤ (q : Int) := by omega
      have b3 : (q : Int) < (M.files.length : Int) := by omega
      have q0 : decide ((i : Int) < 0) = false := decide_eq_false (by omega)
      have HS4 := Aside0.mk (show (w2.setCell ⟨g, q * 2 + 1, none⟩ (.int .i64 (bsS (M.files.getD q ([], 0)).1).size)).heap.size = w2.heap.size by simp [World.setCell])
      clear H2 H4 hW4 hset hmm hr0 hf77 hr1 hC' hdl hgq hqf hc0 hlen hg hi hn hq hcc
      generalize bsS (M.files.getD q ([], 0)).1 = fs at *
      go_wp2_with fail
      go_region_held3 (fun w' => w'.cell? ⟨rb, 0, none⟩ = some (.slice (some ⟨g, 0, none⟩) M.files.length c0) ∧ w'.cell? ⟨g, q * 2, none⟩ = some (.string fs))
        ((repeat' apply And.intro) <;> (first | assumption | go_keep))
        (first | fail)
      all_goals (
        clear k0 k1 x0 x1 y0 y1 hk0 hk1 d0 d1
        go_wp2_with fail
        go_ret
        exact ⟨by rw [HQ.out]; rfl, by rw [HQ.out]; exact HF.out _ (below_drew (Below.refl _ _))⟩)
  · have HE : Aside0 (syncF M nm.data.toList = (tick M, callE M)) := ⟨by unfold syncF; rw [if_pos he]⟩
    rw [HE.out]
    have hb : (callE M != 0) = true := by simpa using he
    clear h he hc hB hv hcc
    generalize callE M = ce at *
    go_enter Try.func43, Try.ntmps43
    go_wp2_with fail
    refine hcl.mono ?_
    rintro e w1 ⟨rfl, h1, h2, -⟩
    have H := Aside0.mk h1
    have HW := Aside0.mk (h2.mono (S' := own) (fun k _ e => e ▸ HO.out))
    clear h1 h2 hcl
    go_wp2
    go_ret
    exact ⟨rfl, WentR.same H.out rfl HW.out⟩
set_option maxRecDepth 100000 in
set_option maxHeartbeats 4000000 in
theorem rAppend.calls (h : RefR w own rb fv dv sv cv M) (hc : Cnt M) (hB : BdR M) (hv : ∀ p ∈ M.dir, p.2 < M.files.length) (hfits : Fits M 1099511627776) (hfl : M.files.length < 1000000) (hsp : M.space ≤ 9223372036854775807) (hsp0 : 0 ≤ M.space) (nm s : ByteArray) (hss : s.size ≤ 1099511627776) :
    Calls Try.prog 42 #[.pointer (some ⟨rb, 0, none⟩), .string nm, .string s] w fun e w' => e = .returned (.int .i64 (appendF M nm.data.toList s.data.toList).2) ∧ WentR w w' own rb (appendF M nm.data.toList s.data.toList).1 := by
  obtain ⟨A1, c1, rfl, hcc, -⟩ := Kd.R_reads h.dir
  have hcl := rcall.calls h hc
  have HO := Aside0.mk h.orb
  have HBD := Aside0.mk hB
  have HV := Aside0.mk hv
  have hhe := fun (W : World) (hr : RefR W own rb fv (.slice A1 (dirS M.dir).length c1) sv cv (tick M)) => rHeld.calls hr hv (by have := hB.dl; show M.dir.length < _; omega) hfl hfits
  have HHE := Aside0.mk hhe; have HSS := Aside0.mk hss; have HFI := Aside0.mk hfits; have HSP := Aside0.mk hsp; have HSP0 := Aside0.mk hsp0; have HDL := Aside0.mk hB.dl
  by_cases he : callE M = 0
  · have HE := Aside0.mk he
    rw [he] at hcl
    obtain ⟨R, hR⟩ : ∃ R, R = appendF M nm.data.toList s.data.toList := ⟨_, rfl⟩
    rw [← hR]
    have HRR := Aside0.mk hR
    clear h hc hB he hR hv hhe hss hfits hfl hsp hsp0
    go_enter Try.func42, Try.ntmps42
    go_wp2_with fail
    refine hcl.mono ?_
    rintro e w1 ⟨rfl, h1, h2, -⟩
    have H1 := Aside0.mk h1
    have HW1 := Aside0.mk (h2.mono (S' := own) (fun k _ e => e ▸ HO.out))
    have k1 := cells_of h1.blk 1 rfl
    have hat := at_calls (d := (tick M).dir) HBD.out.ri nm (by have : M.dir.length < 100000 := HBD.out.dl; show M.dir.length < _; omega) w1 h1.dir
    clear h1 h2 hcl
    go_wp2_with fail
    refine hat.mono ?_
    rintro e w2 ⟨r, rfl, har, hd⟩
    have HD := Aside0.mk hd.below
    clear hd hat k1
    rcases har with ⟨rfl, hg⟩ | ⟨i, rfl, hi, hn, hg⟩
    · have HQ : Aside0 (R = (tick M, 12)) := ⟨by rw [HRR.out]; unfold appendF; rw [if_neg (by simp [HE.out])]; rw [show M.dir = (tick M).dir from rfl, hg]⟩
      have HF := Aside0.mk (WentR.same (H1.out.below HD.out) rfl (HW1.out.trans (Only.of_below HD.out own) (fun _ _ h => h)))
      clear hg
      go_wp2_with fail
      go_ret
      exact ⟨by rw [HQ.out]; rfl, by rw [HQ.out]; exact HF.out⟩
    · obtain ⟨q, hq⟩ : ∃ q, q = (M.dir.getD i ([], 0)).2 := ⟨_, rfl⟩
      have hgq : dGet M.dir nm.data.toList = some q := by rw [hq]; exact hg
      have hqf : q < M.files.length := HV.out _ (dGet_mem hgq)
      have H2 := H1.out.below HD.out
      have HH2 := Aside0.mk H2
      have hhq : ∀ n, Calls Try.prog 22 #[.pointer (some ⟨rb, 0, none⟩)] (w2.drewN n) fun e w' => e = .returned (.int .i64 (held M)) ∧ ∃ m, w' = w2.drewN m := fun n => by
        refine (HHE.out (w2.drewN n) (HH2.out.below (below_drewN (Below.refl _ _) n))).mono ?_
        rintro e w' ⟨rfl, hd⟩
        obtain ⟨m, hm⟩ := hd.out
        exact ⟨rfl, n + m, by rw [hm, World.drewN_drewN]⟩
      have k4 : w2.cell? ⟨rb, 4, none⟩ = some (.int .i64 M.space) := cells_of H2.blk 4 rfl
      have hheld : held M ≤ 100000 * 1099511627776 := by
        rw [← heldTo_all]
        exact Nat.le_trans (heldTo_le M _ HFI.out _) (Nat.mul_le_mul_right _ (Nat.le_of_lt HDL.out))
      have HHB := Aside0.mk hheld
      have HGQ := Aside0.mk hgq
      have q0 : decide ((i : Int) < 0) = false := decide_eq_false (by omega)
      have hsl : s.data.toList.length = s.size := by rw [Array.length_toList]; rfl
      by_cases hfull : M.space - held M < s.size
      · have HQ : Aside0 (R = (tick M, 10)) := ⟨by rw [HRR.out]; unfold appendF; rw [if_neg (by simp [HE.out])]; simp only [hgq]; rw [if_pos (by rw [hsl]; exact hfull)]⟩
        have hdf : decide (M.space - (held M : Int) < (s.size : Int)) = true := decide_eq_true hfull
        have m0 := HSP.out
        have m1 := HSP0.out
        have HWD := Aside0.mk (HW1.out.trans (Only.of_below HD.out own) (fun _ _ h => h))
        clear H2 hgq hqf hg hi hn hq hfull hsl
        generalize held M = hd at *
        have hwr : IntKind.i64.wrap (M.space - (hd : Int)) = M.space - (hd : Int) := by rw [IntWalk.i64_in _ (by omega)]
        have hw2 : wrap64 (M.space - (hd : Int)) = M.space - (hd : Int) := by unfold wrap64; omega
        go_wp2_with fail
        go_quiet ((go_at_call 22; exact hhq _))
        have HF := Aside0.mk (WentR.same (M' := tick M) (HH2.out.below (below_drewN (Below.refl w2.heap.size w2) nq)) rfl (HWD.out.trans (Only.of_below (below_drewN (Below.refl w2.heap.size w2) nq) own) (fun _ _ h => h)))
        go_wp2_with fail
        go_ret
        exact ⟨by rw [HQ.out]; rfl, by rw [HQ.out]; exact HF.out⟩
      · have HQ : Aside0 (R = ({ tick M with files := M.files.modify q fun f => (f.1 ++ s.data.toList, f.2) }, 0)) := ⟨by rw [HRR.out]; unfold appendF; rw [if_neg (by simp [HE.out])]; simp only [hgq]; rw [if_neg (by rw [hsl]; exact hfull)]⟩
        have hdf : decide (M.space - (held M : Int) < (s.size : Int)) = false := decide_eq_false hfull
        have m0 := HSP.out
        have m1 := HSP0.out
        have m2 := HSS.out
        obtain ⟨A0, c0, hfv, hc0, -⟩ := Kd.R_reads H2.files
        have hlen : ((tick M).files.map f77).length = M.files.length := by rw [List.length_map]; rfl
        rw [hlen] at hfv hc0
        obtain ⟨g, hgA⟩ : ∃ g, A0 = some ⟨g, 0, none⟩ := by
          obtain ⟨ad, c', e⟩ := Kd.R_slice1 H2.files (by rw [hlen]; omega)
          rw [hfv] at e
          injection e with e1 _ _
          have h5 := H2.files
          rw [hfv, e1] at h5
          obtain ⟨g, hh⟩ := Kd.R_head h5
          exact ⟨g, by rw [e1, hh]⟩
        subst hgA hfv
        have hsz0 := HFI.out q
        obtain ⟨x0, x1, y0, y1⟩ := f77_elem H2.files q hqf
        have hmm := map_modify M.files q hqf (fun f => (f.1 ++ s.data.toList, f.2))
        have hr0 : rd77 ((tick M).files.map f77) (q : Int) = ⟨bsS (M.files.getD q ([], 0)).1, ((M.files.getD q ([], 0)).2 : Int)⟩ := rd77_at (tick M) q
        rw [hr0] at x0 x1
        simp only at x0 x1
        have hset := f77_text H2.files q hqf (bsS (M.files.getD q ([], 0)).1 ++ s)
        rw [hr0] at hset
        simp only at hset
        have hf77 : f77 ((M.files.getD q ([], 0)).1 ++ s.data.toList, (M.files.getD q ([], 0)).2) = ⟨bsS (M.files.getD q ([], 0)).1 ++ s, ((M.files.getD q ([], 0)).2 : Int)⟩ := by show (⟨bsS ((M.files.getD q ([], 0)).1 ++ s.data.toList), ((M.files.getD q ([], 0)).2 : Int)⟩ : F77) = _; rw [bsS_app]
        obtain ⟨H4, hW4⟩ := H2.fileSet hset.2 (M.files.modify q fun f => (f.1 ++ s.data.toList, f.2)) (by rw [hmm, hf77]; exact hset.1)
        have hk0 := cells_of H4.blk 0 rfl
        have hk1 := cells_of H4.blk 1 rfl
        obtain ⟨A', c', e', -, hC'⟩ := Kd.R_reads H2.dir
        obtain ⟨A'', c'', e'', -, hC''⟩ := Kd.R_reads H4.dir
        have hdl : (dirS (tick M).dir).length = M.dir.length := dirS_len M.dir
        rw [show (dirS (tick M).dir).length = (dirS M.dir).length from rfl] at e'
        simp only [Value.slice.injEq] at e' e''
        obtain ⟨rfl, -, rfl⟩ := e'
        obtain ⟨rfl, -, rfl⟩ := e''
        obtain ⟨a1, e1, d0, d1⟩ := at_T79 hC' (i : Int) (by omega) (by rw [hdl]; have : i < M.dir.length := hi; omega)
        rw [dirS_at, Int.toNat_natCast] at d0 d1
        simp only [show (tick M).dir = M.dir from rfl, ← hq] at d0 d1
        subst e1
        obtain ⟨a2, e2, d2, d3⟩ := at_T79 hC'' (i : Int) (by omega) (by rw [show (dirS ({ tick M with files := M.files.modify q fun f => (f.1 ++ s.data.toList, f.2) } : DM).dir).length = M.dir.length from dirS_len M.dir]; have : i < M.dir.length := hi; omega)
        obtain rfl := Option.some.inj e2
        rw [dirS_at, Int.toNat_natCast] at d2 d3
        simp only [show (tick M).dir = M.dir from rfl, ← hq] at d2 d3
        have k0 := cells_of H2.blk 0 rfl
        have k1 := cells_of H2.blk 1 rfl
        have HF := Aside0.mk (fun (W : World) (hb : Below (w2.setCell ⟨g, q * 2, none⟩ (.string (bsS (M.files.getD q ([], 0)).1 ++ s))).heap.size (w2.setCell ⟨g, q * 2, none⟩ (.string (bsS (M.files.getD q ([], 0)).1 ++ s))) W) =>
          WentR.same (M' := { tick M with files := M.files.modify q fun f => (f.1 ++ s.data.toList, f.2) }) (H4.below hb) rfl (((HW1.out.trans (Only.of_below HD.out own) (fun _ _ h => h)).trans hW4 (fun _ _ h => h)).trans (Only.of_below hb own) (fun _ _ h => h)))
        have b0 : 0 ≤ (i : Int) := by omega
        have b1 : (i : Int) < ((dirS M.dir).length : Int) := by rw [dirS_len]; have : i < M.dir.length := hi; omega
        have b2 : 0 ≤ (q : Int) := by omega
        have b3 : (q : Int) < (M.files.length : Int) := by omega
        rw [← bsS_size] at hsz0
        have hcat : ¬ 9223372036854775807 < (bsS (M.files.getD q ([], 0)).1).size + s.size := by omega
        clear H2 H4 hW4 hset hmm hr0 hf77 hC' hC'' hdl hgq hqf hc0 hlen hg hi hn hq hcc hfull hsl hsz0
        generalize bsS (M.files.getD q ([], 0)).1 = fs at *
        generalize held M = hd at *
        have hwr : IntKind.i64.wrap (M.space - (hd : Int)) = M.space - (hd : Int) := by rw [IntWalk.i64_in _ (by omega)]
        have hw2 : wrap64 (M.space - (hd : Int)) = M.space - (hd : Int) := by unfold wrap64; omega
        go_wp2_with fail
        go_quiet ((go_at_call 22; exact hhq _))
        clear hwr hw2 hhq
        go_wp2_with fail
        go_region_with (fail)
        all_goals (
          clear k0 k1 k4 x0 x1 y0 y1 hk0 hk1 d0 d1 d2 d3
          go_wp2_with fail
          go_ret
          exact ⟨by rw [HQ.out]; rfl, by rw [HQ.out]; exact HF.out _ (below_drewN (Below.refl _ _) _)⟩)
  · have HE : Aside0 (appendF M nm.data.toList s.data.toList = (tick M, callE M)) := ⟨by unfold appendF; rw [if_pos he]⟩
    rw [HE.out]
    have hb : (callE M != 0) = true := by simpa using he
    clear h he hc hB hv hcc hhe hss hfits
    generalize callE M = ce at *
    go_enter Try.func42, Try.ntmps42
    go_wp2_with fail
    refine hcl.mono ?_
    rintro e w1 ⟨rfl, h1, h2, -⟩
    have H := Aside0.mk h1
    have HW := Aside0.mk (h2.mono (S' := own) (fun k _ e => e ▸ HO.out))
    clear h1 h2 hcl
    go_wp2
    go_ret
    exact ⟨rfl, WentR.same H.out rfl HW.out⟩
end
end Go.Proofs.Ytephblclhojffaa.A
