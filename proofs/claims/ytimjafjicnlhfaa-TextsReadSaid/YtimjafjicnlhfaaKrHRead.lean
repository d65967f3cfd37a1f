/- texts.Read: the texts that bytes are. -/
import Derived.Test.YtimjafjicnlhfaaKrAx0
import Derived.Test.YtimjafjicnlhfaaKrAx3
import Derived.Test.YtimjafjicnlhfaaKrAx4
import Derived.Test.YtimjafjicnlhfaaKrAx5
import Derived.Test.YtimjafjicnlhfaaKrHChosen
namespace Go.Proofs.Ytimjafjicnlhfaa.A
open Go.RowKit Go.Proofs.YtimjafjicnlhfaaW.PrintWords Go.Proofs.YtimjafjicnlhfaaW.PrintLast Go.Proofs.YtimjafjicnlhfaaW.PrintMore
set_option linter.unusedVariables false
set_option linter.unusedSimpArgs false
def doneP (c : Cur) : Int := if c.2 = 0 ∧ c.1.size ≠ 0 then 5 else c.2
theorem done_f (c : Cur) : tally_Cursor_Done.f c.1 c.2 = withC (doneP c, c) := by
  unfold tally_Cursor_Done.f doneP
  rw [ok_f]
  simp only [withC, Option.bind_some, beq_iff_eq, toList_nil]
  by_cases h : c.2 = 0
  · rw [if_pos h]
    by_cases h0 : c.1.size = 0
    · rw [if_pos h0, if_neg (fun e => e.2 h0), err_f]
      rfl
    · rw [if_neg h0, if_pos ⟨h, h0⟩]
  · rw [if_neg h, if_neg (fun e => h e.1), err_f]
    rfl
def bodyP (codec : Int) (n : Nat) (c : Cur) : (List ByteArray × Int) × Cur := if codec = 1 then chosenP n c else getP n [] c
def readP (s : ByteArray) : List ByteArray × Int :=
  if (byteP (s, 0)).2.2 = 0 ∧ (byteP (s, 0)).1 ≥ 2 then ([], 4) else
  if (countP (byteP (s, 0)).2).1.2 = 0 then
    if (bodyP (byteP (s, 0)).1 (countP (byteP (s, 0)).2).1.1.toNat (countP (byteP (s, 0)).2).2).1.2 = 0 then
      if doneP (bodyP (byteP (s, 0)).1 (countP (byteP (s, 0)).2).1.1.toNat (countP (byteP (s, 0)).2).2).2 = 0 then ((bodyP (byteP (s, 0)).1 (countP (byteP (s, 0)).2).1.1.toNat (countP (byteP (s, 0)).2).2).1.1, 0)
      else ([], doneP (bodyP (byteP (s, 0)).1 (countP (byteP (s, 0)).2).1.1.toNat (countP (byteP (s, 0)).2).2).2)
    else ([], (bodyP (byteP (s, 0)).1 (countP (byteP (s, 0)).2).1.1.toNat (countP (byteP (s, 0)).2).2).1.2)
  else ([], (countP (byteP (s, 0)).2).1.2)
def texts_Read.f (a0 : ByteArray) : Option (List ByteArray × Int) := if Fit a0 then some (readP a0) else none
set_option maxHeartbeats 8000000 in
set_option maxRecDepth 100000 in

theorem body.calls (codec : Int) (g n : Nat) (c : Cur) (w0 w : World) (hI : IsS80 w0 w g c.1 c.2) (hB : Below w0.heap.size w0 w) (hn : n ≤ 65536) (hs : Fit c.1) :
    Calls Try.prog (if codec = 1 then 37 else 36) #[.pointer (some ⟨g, 0, none⟩), .int .i64 n] w fun e w' => ∃ v0_ : Value, e = .returned (.tuple #[v0_, .int .i64 (bodyP codec n c).1.2]) ∧ Kd.R Kd.string 9 w' w.heap.size (fun _ => True) v0_ (bodyP codec n c).1.1 ∧
      IsS80 w0 w' g (bodyP codec n c).2.1 (bodyP codec n c).2.2 ∧ Below w0.heap.size w0 w' ∧ KeepBut w w' g none := by
  unfold bodyP
  by_cases h : codec = 1
  · rw [if_pos h, if_pos h]
    exact chosen.calls g n c w0 w hI hB hn hs
  · rw [if_neg h, if_neg h]
    exact texts_get.calls 600000 g c.1 c.2 (n : Int) _ _ _ _ w0 w hI hB (get_f 600000 n c hn (by omega) hs)
set_option maxHeartbeats 8000000 in
set_option maxRecDepth 100000 in
theorem texts_Read.calls (a0 : ByteArray) (r1 : List ByteArray) (r2 : Int) (w : World) (h : texts_Read.f a0 = some (r1, r2)) :
    Calls Try.prog 12 #[.string a0] w fun e w' => ∃ v0_ : Value, e = .returned (.tuple #[v0_, .int .i64 r2]) ∧ Kd.R Kd.string 9 w' w.heap.size (fun _ => True) v0_ r1 ∧ Below w.heap.size w w' := by
  unfold texts_Read.f at h
  by_cases hs : Fit a0
  · rw [if_pos hs] at h
    have h := Option.some.inj h
    have hbf := byte_f (a0, 0)
    have hbfit := byteP_fit (a0, 0) hs
    have hbr := byteP_range (a0, 0)
    unfold readP at h
    generalize byteP (a0, 0) = b at *
    obtain ⟨codec, c1⟩ := b
    have hcf := count_f c1
    have hcr := countP_range c1
    have hcfit := countP_fit c1 hbfit
    simp only at h hbf hbr hcf hcr hcfit
    generalize hcp : countP c1 = q at *
    obtain ⟨⟨n, e1⟩, c2⟩ := q
    simp only at h hcf hcr hcfit
    have hfrom := tally_From.calls a0 a0 0 w w (Below.refl _ _) rfl
    by_cases h1 : c1.2 = 0 ∧ codec ≥ 2
    · rw [if_pos h1] at h
      injection h with e1 e2
      subst e1; subst e2
      have HF := Aside0.mk hfrom
      have g1 : (c1.2 == 0) = true := beq_iff_eq.mpr h1.1
      have g2 : decide (2 ≤ codec) = true := decide_eq_true h1.2
      have HBF := Aside0.mk hbf
      clear hfrom hbf hcf hcfit h1 hcp
      go_enter Try.func12, Try.ntmps12
      go_wp2_with fail
      refine HF.out.mono ?_
      rintro e w1 ⟨g, rfl, hi1, hb1, _⟩
      have hbc := tally_Cursor_Byte.calls g a0 0 codec c1.1 c1.2 w w1 hi1 hb1 HBF.out
      have HBC := Aside0.mk hbc
      clear hbc hi1 hb1 HF HBF
      go_wp2_with fail
      refine HBC.out.mono ?_
      rintro e w2 ⟨rfl, hi2, hb2, _⟩
      have hec := tally_Cursor_Err.calls g c1.1 c1.2 c1.2 c1.1 c1.2 w w2 hi2 hb2 rfl
      have HEC := Aside0.mk hec
      clear hec hi2 hb2 HBC
      go_wp2_with fail
      refine HEC.out.mono ?_
      rintro e w3 ⟨rfl, hi3, hb3, _⟩
      have HB3 := Aside0.mk hb3
      clear hi3 hb3 HEC
      go_wp2_with fail
      go_ret2
      exact ⟨_, rfl, Kd.R_nil _ _ _ _ _, HB3.out⟩
    · rw [if_neg h1] at h
      have HF := Aside0.mk hfrom; have HBF := Aside0.mk hbf; have HCF := Aside0.mk hcf; have HFIT := Aside0.mk hcfit
      clear hfrom hbf hcf hcfit hbfit
      by_cases hz : c1.2 = 0
      · have hlt : codec < 2 := by have := fun hx => h1 ⟨hz, hx⟩; omega
        have g1 : (c1.2 == 0) = true := beq_iff_eq.mpr hz
        have g2 : decide (2 ≤ codec) = false := decide_eq_false (by omega)
        clear h1 hz
        by_cases he : e1 = 0
        · rw [if_pos he] at h
          subst he
          obtain ⟨m, rfl⟩ : ∃ m : Nat, n = (m : Int) := ⟨n.toNat, by omega⟩
          rw [Int.toNat_natCast] at h
          have HM := Aside0.mk (show m ≤ 65536 by omega)
          clear hcr hcp
          generalize hbody : bodyP codec m c2 = bb at *
          obtain ⟨⟨l, e3⟩, c3⟩ := bb
          have HBODY := Aside0.mk hbody
          clear hbody
          simp only at h
          by_cases hk : codec = 1
          · have g3 : (codec == 1) = true := beq_iff_eq.mpr hk
            have HK := Aside0.mk hk
            clear hk hlt
            by_cases he3 : e3 = 0
            · rw [if_pos he3] at h
              subst he3
              by_cases hd : doneP c3 = 0
              · rw [if_pos hd] at h
                injection h with ea eb
                subst ea; subst eb
                have g4 : (doneP c3 == 0) = true := beq_iff_eq.mpr hd
                have g5 : (doneP c3 != 0) = false := bne_eq_false_iff_eq.mpr hd
                clear hd
                go_enter Try.func12, Try.ntmps12
                go_wp2_with fail
                refine HF.out.mono ?_
                rintro e w1 ⟨g, rfl, hi1, hb1, _⟩
                have HBC := Aside0.mk (tally_Cursor_Byte.calls g a0 0 codec c1.1 c1.2 w w1 hi1 hb1 HBF.out)
                clear hi1 hb1 HF HBF
                go_wp2_with fail
                refine HBC.out.mono ?_
                rintro e w2 ⟨rfl, hi2, hb2, _⟩
                have HEC := Aside0.mk (tally_Cursor_Err.calls g c1.1 c1.2 c1.2 c1.1 c1.2 w w2 hi2 hb2 rfl)
                clear hi2 hb2 HBC
                go_wp2_with fail
                refine HEC.out.mono ?_
                rintro e w3 ⟨rfl, hi3, hb3, _⟩
                have HCC := Aside0.mk (texts_count.calls g c1.1 c1.2 _ _ _ _ w w3 hi3 hb3 HCF.out)
                clear hi3 hb3 HEC HCF
                go_wp2_with fail
                refine HCC.out.mono ?_
                rintro e w4 ⟨rfl, hi4, hb4, _⟩
                have hbc := body.calls codec g m c2 w w4 hi4 hb4 HM.out HFIT.out
                rw [if_pos HK.out, HBODY.out] at hbc
                have HBB := Aside0.mk hbc; have HSZ := Aside0.mk hb4.size
                clear hi4 hb4 HCC hbc
                go_wp2_with fail
                refine HBB.out.mono ?_
                rintro e w5 ⟨v5, rfl, hr5, hi5, hb5, hk5⟩
                have HR5 := Aside0.mk (Kd.R_lower hr5 HSZ.out)
                have HDC := Aside0.mk (fun W (hb : Below w5.heap.size w5 W) => tally_Cursor_Done.calls g c3.1 c3.2 (doneP c3) c3.1 c3.2 w W (hi5.below hb) (hb5.trans (hb.mono hb5.size)) (done_f c3))
                have HS5 := Aside0.mk (show some g ≠ v5.ownBlock from fun e0 => Kd.R_ne HR5.out hi5.1 (by decide) e0)
                have HI5 := Aside0.mk hi5
                clear hi5 hb5 hk5 hr5 HBB HSZ
                go_wp2_with fail
                refine (HDC.out _ (Below.refl _ _)).mono ?_
                rintro e w6 ⟨rfl, hi6, hb6, hk6⟩
                have HB6 := Aside0.mk hb6; have HK6 := Aside0.mk hk6
                clear hi6 hb6 hk6 HDC
                go_wp2_with fail
                go_ret2
                exact ⟨_, rfl, Kd.R_mono (Kd.R_keep (Kd.R_types HR5.out HI5.out.1 (by decide)) HK6.out (fun k hk => hk.2)) (fun _ _ => trivial), HB6.out⟩
              · rw [if_neg hd] at h
                injection h with ea eb
                subst ea; subst eb
                have g4 : (doneP c3 == 0) = false := beq_eq_false_iff_ne.mpr hd
                have g5 : (doneP c3 != 0) = true := bne_iff_ne.mpr hd
                clear hd
                go_enter Try.func12, Try.ntmps12
                go_wp2_with fail
                refine HF.out.mono ?_
                rintro e w1 ⟨g, rfl, hi1, hb1, _⟩
                have HBC := Aside0.mk (tally_Cursor_Byte.calls g a0 0 codec c1.1 c1.2 w w1 hi1 hb1 HBF.out)
                clear hi1 hb1 HF HBF
                go_wp2_with fail
                refine HBC.out.mono ?_
                rintro e w2 ⟨rfl, hi2, hb2, _⟩
                have HEC := Aside0.mk (tally_Cursor_Err.calls g c1.1 c1.2 c1.2 c1.1 c1.2 w w2 hi2 hb2 rfl)
                clear hi2 hb2 HBC
                go_wp2_with fail
                refine HEC.out.mono ?_
                rintro e w3 ⟨rfl, hi3, hb3, _⟩
                have HCC := Aside0.mk (texts_count.calls g c1.1 c1.2 _ _ _ _ w w3 hi3 hb3 HCF.out)
                clear hi3 hb3 HEC HCF
                go_wp2_with fail
                refine HCC.out.mono ?_
                rintro e w4 ⟨rfl, hi4, hb4, _⟩
                have hbc := body.calls codec g m c2 w w4 hi4 hb4 HM.out HFIT.out
                rw [if_pos HK.out, HBODY.out] at hbc
                have HBB := Aside0.mk hbc; have HSZ := Aside0.mk hb4.size
                clear hi4 hb4 HCC hbc
                go_wp2_with fail
                refine HBB.out.mono ?_
                rintro e w5 ⟨v5, rfl, hr5, hi5, hb5, hk5⟩
                have HR5 := Aside0.mk (Kd.R_lower hr5 HSZ.out)
                have HDC := Aside0.mk (fun W (hb : Below w5.heap.size w5 W) => tally_Cursor_Done.calls g c3.1 c3.2 (doneP c3) c3.1 c3.2 w W (hi5.below hb) (hb5.trans (hb.mono hb5.size)) (done_f c3))
                have HS5 := Aside0.mk (show some g ≠ v5.ownBlock from fun e0 => Kd.R_ne HR5.out hi5.1 (by decide) e0)
                have HI5 := Aside0.mk hi5
                clear hi5 hb5 hk5 hr5 HBB HSZ
                go_wp2_with fail
                refine (HDC.out _ (Below.refl _ _)).mono ?_
                rintro e w6 ⟨rfl, hi6, hb6, hk6⟩
                have HB6 := Aside0.mk hb6; have HK6 := Aside0.mk hk6
                clear hi6 hb6 hk6 HDC
                go_wp2_with fail
                go_ret2
                exact ⟨_, rfl, Kd.R_nil _ _ _ _ _, HB6.out⟩
            · rw [if_neg he3] at h
              injection h with ea eb
              subst ea; subst eb
              have g4 : (e3 == 0) = false := beq_eq_false_iff_ne.mpr he3
              have g5 : (e3 != 0) = true := bne_iff_ne.mpr he3
              clear he3
              go_enter Try.func12, Try.ntmps12
              go_wp2_with fail
              refine HF.out.mono ?_
              rintro e w1 ⟨g, rfl, hi1, hb1, _⟩
              have HBC := Aside0.mk (tally_Cursor_Byte.calls g a0 0 codec c1.1 c1.2 w w1 hi1 hb1 HBF.out)
              clear hi1 hb1 HF HBF
              go_wp2_with fail
              refine HBC.out.mono ?_
              rintro e w2 ⟨rfl, hi2, hb2, _⟩
              have HEC := Aside0.mk (tally_Cursor_Err.calls g c1.1 c1.2 c1.2 c1.1 c1.2 w w2 hi2 hb2 rfl)
              clear hi2 hb2 HBC
              go_wp2_with fail
              refine HEC.out.mono ?_
              rintro e w3 ⟨rfl, hi3, hb3, _⟩
              have HCC := Aside0.mk (texts_count.calls g c1.1 c1.2 _ _ _ _ w w3 hi3 hb3 HCF.out)
              clear hi3 hb3 HEC HCF
              go_wp2_with fail
              refine HCC.out.mono ?_
              rintro e w4 ⟨rfl, hi4, hb4, _⟩
              have hbc := body.calls codec g m c2 w w4 hi4 hb4 HM.out HFIT.out
              rw [if_pos HK.out, HBODY.out] at hbc
              have HBB := Aside0.mk hbc; have HSZ := Aside0.mk hb4.size
              clear hi4 hb4 HCC hbc
              go_wp2_with fail
              refine HBB.out.mono ?_
              rintro e w5 ⟨v5, rfl, hr5, hi5, hb5, hk5⟩
              have HB5 := Aside0.mk hb5
              clear hi5 hb5 hk5 hr5 HBB
              go_wp2_with fail
              go_ret2
              exact ⟨_, rfl, Kd.R_nil _ _ _ _ _, HB5.out⟩
          · have g3 : (codec == 1) = false := beq_eq_false_iff_ne.mpr hk
            have HK := Aside0.mk hk
            clear hk hlt
            by_cases he3 : e3 = 0
            · rw [if_pos he3] at h
              subst he3
              by_cases hd : doneP c3 = 0
              · rw [if_pos hd] at h
                injection h with ea eb
                subst ea; subst eb
                have g4 : (doneP c3 == 0) = true := beq_iff_eq.mpr hd
                have g5 : (doneP c3 != 0) = false := bne_eq_false_iff_eq.mpr hd
                clear hd
                go_enter Try.func12, Try.ntmps12
                go_wp2_with fail
                refine HF.out.mono ?_
                rintro e w1 ⟨g, rfl, hi1, hb1, _⟩
                have HBC := Aside0.mk (tally_Cursor_Byte.calls g a0 0 codec c1.1 c1.2 w w1 hi1 hb1 HBF.out)
                clear hi1 hb1 HF HBF
                go_wp2_with fail
                refine HBC.out.mono ?_
                rintro e w2 ⟨rfl, hi2, hb2, _⟩
                have HEC := Aside0.mk (tally_Cursor_Err.calls g c1.1 c1.2 c1.2 c1.1 c1.2 w w2 hi2 hb2 rfl)
                clear hi2 hb2 HBC
                go_wp2_with fail
                refine HEC.out.mono ?_
                rintro e w3 ⟨rfl, hi3, hb3, _⟩
                have HCC := Aside0.mk (texts_count.calls g c1.1 c1.2 _ _ _ _ w w3 hi3 hb3 HCF.out)
                clear hi3 hb3 HEC HCF
                go_wp2_with fail
                refine HCC.out.mono ?_
                rintro e w4 ⟨rfl, hi4, hb4, _⟩
                have hbc := body.calls codec g m c2 w w4 hi4 hb4 HM.out HFIT.out
                rw [if_neg HK.out, HBODY.out] at hbc
                have HBB := Aside0.mk hbc; have HSZ := Aside0.mk hb4.size
                clear hi4 hb4 HCC hbc
                go_wp2_with fail
                refine HBB.out.mono ?_
                rintro e w5 ⟨v5, rfl, hr5, hi5, hb5, hk5⟩
                have HR5 := Aside0.mk (Kd.R_lower hr5 HSZ.out)
                have HDC := Aside0.mk (fun W (hb : Below w5.heap.size w5 W) => tally_Cursor_Done.calls g c3.1 c3.2 (doneP c3) c3.1 c3.2 w W (hi5.below hb) (hb5.trans (hb.mono hb5.size)) (done_f c3))
                have HS5 := Aside0.mk (show some g ≠ v5.ownBlock from fun e0 => Kd.R_ne HR5.out hi5.1 (by decide) e0)
                have HI5 := Aside0.mk hi5
                clear hi5 hb5 hk5 hr5 HBB HSZ
                go_wp2_with fail
                refine (HDC.out _ (Below.refl _ _)).mono ?_
                rintro e w6 ⟨rfl, hi6, hb6, hk6⟩
                have HB6 := Aside0.mk hb6; have HK6 := Aside0.mk hk6
                clear hi6 hb6 hk6 HDC
                go_wp2_with fail
                go_ret2
                exact ⟨_, rfl, Kd.R_mono (Kd.R_keep (Kd.R_types HR5.out HI5.out.1 (by decide)) HK6.out (fun k hk => hk.2)) (fun _ _ => trivial), HB6.out⟩
              · rw [if_neg hd] at h
                injection h with ea eb
                subst ea; subst eb
                have g4 : (doneP c3 == 0) = false := beq_eq_false_iff_ne.mpr hd
                have g5 : (doneP c3 != 0) = true := bne_iff_ne.mpr hd
                clear hd
                go_enter Try.func12, Try.ntmps12
                go_wp2_with fail
                refine HF.out.mono ?_
                rintro e w1 ⟨g, rfl, hi1, hb1, _⟩
                have HBC := Aside0.mk (tally_Cursor_Byte.calls g a0 0 codec c1.1 c1.2 w w1 hi1 hb1 HBF.out)
                clear hi1 hb1 HF HBF
                go_wp2_with fail
                refine HBC.out.mono ?_
                rintro e w2 ⟨rfl, hi2, hb2, _⟩
                have HEC := Aside0.mk (tally_Cursor_Err.calls g c1.1 c1.2 c1.2 c1.1 c1.2 w w2 hi2 hb2 rfl)
                clear hi2 hb2 HBC
                go_wp2_with fail
                refine HEC.out.mono ?_
                rintro e w3 ⟨rfl, hi3, hb3, _⟩
                have HCC := Aside0.mk (texts_count.calls g c1.1 c1.2 _ _ _ _ w w3 hi3 hb3 HCF.out)
                clear hi3 hb3 HEC HCF
                go_wp2_with fail
                refine HCC.out.mono ?_
                rintro e w4 ⟨rfl, hi4, hb4, _⟩
                have hbc := body.calls codec g m c2 w w4 hi4 hb4 HM.out HFIT.out
                rw [if_neg HK.out, HBODY.out] at hbc
                have HBB := Aside0.mk hbc; have HSZ := Aside0.mk hb4.size
                clear hi4 hb4 HCC hbc
                go_wp2_with fail
                refine HBB.out.mono ?_
                rintro e w5 ⟨v5, rfl, hr5, hi5, hb5, hk5⟩
                have HR5 := Aside0.mk (Kd.R_lower hr5 HSZ.out)
                have HDC := Aside0.mk (fun W (hb : Below w5.heap.size w5 W) => tally_Cursor_Done.calls g c3.1 c3.2 (doneP c3) c3.1 c3.2 w W (hi5.below hb) (hb5.trans (hb.mono hb5.size)) (done_f c3))
                have HS5 := Aside0.mk (show some g ≠ v5.ownBlock from fun e0 => Kd.R_ne HR5.out hi5.1 (by decide) e0)
                have HI5 := Aside0.mk hi5
                clear hi5 hb5 hk5 hr5 HBB HSZ
                go_wp2_with fail
                refine (HDC.out _ (Below.refl _ _)).mono ?_
                rintro e w6 ⟨rfl, hi6, hb6, hk6⟩
                have HB6 := Aside0.mk hb6; have HK6 := Aside0.mk hk6
                clear hi6 hb6 hk6 HDC
                go_wp2_with fail
                go_ret2
                exact ⟨_, rfl, Kd.R_nil _ _ _ _ _, HB6.out⟩
            · rw [if_neg he3] at h
              injection h with ea eb
              subst ea; subst eb
              have g4 : (e3 == 0) = false := beq_eq_false_iff_ne.mpr he3
              have g5 : (e3 != 0) = true := bne_iff_ne.mpr he3
              clear he3
              go_enter Try.func12, Try.ntmps12
              go_wp2_with fail
              refine HF.out.mono ?_
              rintro e w1 ⟨g, rfl, hi1, hb1, _⟩
              have HBC := Aside0.mk (tally_Cursor_Byte.calls g a0 0 codec c1.1 c1.2 w w1 hi1 hb1 HBF.out)
              clear hi1 hb1 HF HBF
              go_wp2_with fail
              refine HBC.out.mono ?_
              rintro e w2 ⟨rfl, hi2, hb2, _⟩
              have HEC := Aside0.mk (tally_Cursor_Err.calls g c1.1 c1.2 c1.2 c1.1 c1.2 w w2 hi2 hb2 rfl)
              clear hi2 hb2 HBC
              go_wp2_with fail
              refine HEC.out.mono ?_
              rintro e w3 ⟨rfl, hi3, hb3, _⟩
              have HCC := Aside0.mk (texts_count.calls g c1.1 c1.2 _ _ _ _ w w3 hi3 hb3 HCF.out)
              clear hi3 hb3 HEC HCF
              go_wp2_with fail
              refine HCC.out.mono ?_
              rintro e w4 ⟨rfl, hi4, hb4, _⟩
              have hbc := body.calls codec g m c2 w w4 hi4 hb4 HM.out HFIT.out
              rw [if_neg HK.out, HBODY.out] at hbc
              have HBB := Aside0.mk hbc; have HSZ := Aside0.mk hb4.size
              clear hi4 hb4 HCC hbc
              go_wp2_with fail
              refine HBB.out.mono ?_
              rintro e w5 ⟨v5, rfl, hr5, hi5, hb5, hk5⟩
              have HB5 := Aside0.mk hb5
              clear hi5 hb5 hk5 hr5 HBB
              go_wp2_with fail
              go_ret2
              exact ⟨_, rfl, Kd.R_nil _ _ _ _ _, HB5.out⟩
        · rw [if_neg he] at h
          injection h with ea eb
          subst ea; subst eb
          have g4 : (e1 == 0) = false := beq_eq_false_iff_ne.mpr he
          have g5 : (e1 != 0) = true := bne_iff_ne.mpr he
          clear he
          go_enter Try.func12, Try.ntmps12
          go_wp2_with fail
          refine HF.out.mono ?_
          rintro e w1 ⟨g, rfl, hi1, hb1, _⟩
          have HBC := Aside0.mk (tally_Cursor_Byte.calls g a0 0 codec c1.1 c1.2 w w1 hi1 hb1 HBF.out)
          clear hi1 hb1 HF HBF
          go_wp2_with fail
          refine HBC.out.mono ?_
          rintro e w2 ⟨rfl, hi2, hb2, _⟩
          have HEC := Aside0.mk (tally_Cursor_Err.calls g c1.1 c1.2 c1.2 c1.1 c1.2 w w2 hi2 hb2 rfl)
          clear hi2 hb2 HBC
          go_wp2_with fail
          refine HEC.out.mono ?_
          rintro e w3 ⟨rfl, hi3, hb3, _⟩
          have HCC := Aside0.mk (texts_count.calls g c1.1 c1.2 _ _ _ _ w w3 hi3 hb3 HCF.out)
          clear hi3 hb3 HEC HCF
          go_wp2_with fail
          refine HCC.out.mono ?_
          rintro e w4 ⟨rfl, hi4, hb4, _⟩
          have HB4 := Aside0.mk hb4
          clear hi4 hb4 HCC
          go_wp2_with fail
          go_ret2
          exact ⟨_, rfl, Kd.R_nil _ _ _ _ _, HB4.out⟩
      · have he : e1 ≠ 0 := by
          have hx : uintP c1 = (0, c1) := by unfold uintP; rw [if_neg hz]
          unfold countP at hcp
          rw [hx, if_neg (by simp)] at hcp
          injection hcp with ha hb
          injection ha with ha1 ha2
          exact fun e => hz (ha2.trans e)
        rw [if_neg he] at h
        injection h with ea eb
        subst ea; subst eb
        have g1 : (c1.2 == 0) = false := beq_eq_false_iff_ne.mpr hz
        have g4 : (e1 == 0) = false := beq_eq_false_iff_ne.mpr he
        have g5 : (e1 != 0) = true := bne_iff_ne.mpr he
        clear h1 hz he
        go_enter Try.func12, Try.ntmps12
        go_wp2_with fail
        refine HF.out.mono ?_
        rintro e w1 ⟨g, rfl, hi1, hb1, _⟩
        have HBC := Aside0.mk (tally_Cursor_Byte.calls g a0 0 codec c1.1 c1.2 w w1 hi1 hb1 HBF.out)
        clear hi1 hb1 HF HBF
        go_wp2_with fail
        refine HBC.out.mono ?_
        rintro e w2 ⟨rfl, hi2, hb2, _⟩
        have HEC := Aside0.mk (tally_Cursor_Err.calls g c1.1 c1.2 c1.2 c1.1 c1.2 w w2 hi2 hb2 rfl)
        clear hi2 hb2 HBC
        go_wp2_with fail
        refine HEC.out.mono ?_
        rintro e w3 ⟨rfl, hi3, hb3, _⟩
        have HCC := Aside0.mk (texts_count.calls g c1.1 c1.2 _ _ _ _ w w3 hi3 hb3 HCF.out)
        clear hi3 hb3 HEC HCF
        go_wp2_with fail
        refine HCC.out.mono ?_
        rintro e w4 ⟨rfl, hi4, hb4, _⟩
        have HB4 := Aside0.mk hb4
        clear hi4 hb4 HCC
        go_wp2_with fail
        go_ret2
        exact ⟨_, rfl, Kd.R_nil _ _ _ _ _, HB4.out⟩
  · rw [if_neg hs] at h
    exact absurd h (by simp)
end Go.Proofs.Ytimjafjicnlhfaa.A
