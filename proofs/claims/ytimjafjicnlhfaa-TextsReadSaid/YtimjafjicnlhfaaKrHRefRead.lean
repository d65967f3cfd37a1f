/- The reference's Read: which texts any bytes are. -/
import Derived.Test.YtimjafjicnlhfaaKrAx0
import Derived.Test.YtimjafjicnlhfaaKrAx10
import Derived.Test.YtimjafjicnlhfaaKrAx11
import Derived.Test.YtimjafjicnlhfaaKrAx13
import Derived.Test.YtimjafjicnlhfaaKrHRefP
namespace Go.Proofs.Ytimjafjicnlhfaa.A
open Go.RowKit Go.Proofs.YtimjafjicnlhfaaW.PrintWords Go.Proofs.YtimjafjicnlhfaaW.PrintLast Go.Proofs.YtimjafjicnlhfaaW.PrintMore
set_option linter.unusedVariables false
set_option linter.unusedSimpArgs false
def endP (l : List ByteArray) (c : Cur) : List ByteArray × Int := if doneP c = 0 then (l, 0) else ([], doneP c)
def ref3 (b : Int) (n : Nat) (T : (List ByteArray × Int) × Cur) : List ByteArray × Int :=
  if T.1.2 = 0 then
    if b = 1 then (if (pickP T.1.1 n T.2).2 = 0 then endP (pickP T.1.1 n T.2).1 (numP n T.2).2 else ([], (pickP T.1.1 n T.2).2))
    else endP T.1.1 T.2
  else ([], T.1.2)
def ref2 (b n : Int) (M : Int × Cur) : List ByteArray × Int :=
  if n > 65536 then ([], 3) else if M.2.2 = 0 then (if M.1 > 65536 then ([], 3) else ref3 b n.toNat (takeP (decide (b = 1)) M.1.toNat [] M.2)) else ([], M.2.2)
def ref1 (B : Int × Cur) : List ByteArray × Int :=
  if B.2.2 = 0 ∧ B.1 > 1 then ([], 4) else if B.1 = 1 then ref2 1 (uintP B.2).1 (uintP (uintP B.2).2) else ref2 B.1 (uintP B.2).1 (uintP B.2)
def refR (s : ByteArray) : List ByteArray × Int := ref1 (byteP (s, 0))
theorem uintP_at (k : Nat) (S : ByteArray) (a : Nat) (hs : Fit S) (ha : a ≤ S.size) (e : Int) (hk : 10 < k) :
    ∃ (a' : Nat) (x e' : Int), a' ≤ S.size ∧ uintP (curAt S a e) = (x, curAt S a' e') ∧ tithebarnref01_Cursor_Uint.f k S (a : Int) e = some (x, S, (a' : Int), e') ∧ 0 ≤ x := by
  obtain ⟨a', h1, h2, h3, h4⟩ := uint3_f k S a hs ha e hk
  refine ⟨a', (uintP (curAt S a e)).1, (uintP (curAt S a e)).2.2, h2, ?_, h3, uintP_nonneg _⟩
  unfold curAt at h4 ⊢
  rw [← h4]
theorem takeP_at (k : Nat) (S : ByteArray) (hs : Fit S) (ord : Bool) (n : Nat) (hn : n ≤ 65536) (a : Nat) (ha : a ≤ S.size) (hk : n + 200 < k) :
    ∃ (a' : Nat) (l : List ByteArray) (e e' : Int), a' ≤ S.size ∧ takeP ord n [] (curAt S a 0) = ((l, e), curAt S a' e') ∧ tithebarnref05_words.f k S (a : Int) 0 (n : Int) ord = some (l, e, S, (a' : Int), e') ∧ (e = 0 → e' = 0) ∧ l.length ≤ 65536 := by
  obtain ⟨a', h2, h3, h4⟩ := words_f S hs ord n hn k a 0 ha hk
  refine ⟨a', _, _, (takeP ord n [] (curAt S a 0)).2.2, h2, ?_, h3, takeP_err ord n [] (curAt S a 0) rfl, ?_⟩
  · unfold curAt at h4 ⊢
    rw [← h4]
  · have := takeP_len ord n [] (curAt S a 0)
    simp at this
    omega
set_option maxHeartbeats 16000000 in
set_option maxRecDepth 100000 in
theorem refRead.calls (s : ByteArray) (hs : Fit s) (w : World) :
    Calls Try.prog 13 #[.string s] w fun e w' => ∃ v : Value, e = .returned (.tuple #[v, .int .i64 (refR s).2]) ∧ Kd.R Kd.string 9 w' w.heap.size (fun _ => True) v (refR s).1 ∧ Below w.heap.size w w' := by
  obtain ⟨a1, h1, h2, h3, h4⟩ := byte3_f s 0 hs (Nat.zero_le _) 0
  have hcur0 : curAt s 0 0 = (s, 0) := by unfold curAt; rw [show s.extract 0 s.size = s from by apply ba_ext; simp [ByteArray.data_extract]]
  have hbr := byteP_range (s, 0)
  have hbe : ¬ (byteP (s, 0)).2.2 = 0 → (byteP (s, 0)).1 = 0 := by
    unfold byteP
    rw [if_pos (show (s, (0 : Int)).2 = 0 from rfl)]
    split
    · exact fun _ => rfl
    · exact fun h => absurd rfl h
  rw [hcur0] at h3 h4
  unfold refR
  generalize byteP (s, 0) = B at *
  obtain ⟨b, c1, eb⟩ := B
  simp only at h3 h4 hbr hbe
  have HBE := Aside0.mk hbe
  clear hbe
  subst h4
  obtain ⟨res, hres⟩ : ∃ res, res = ref1 (b, curAt s a1 eb) := ⟨_, rfl⟩
  rw [show ((b, s.extract a1 s.size, eb) : Int × Cur) = (b, curAt s a1 eb) from rfl, ← hres]
  have HRES := Aside0.mk hres; have H3 := Aside0.mk h3; have HFIT := Aside0.mk hs; have HA1 := Aside0.mk h2
  clear hres h3 hcur0 h1 h2 hs
  have h3b : tithebarnref01_Cursor_Byte.f s 0 0 = some (b, s, (a1 : Int), eb) := by simpa using H3.out
  have H3b := Aside0.mk h3b
  have hi1 : IsS62 w (w.alloc (.cells #[.string s, .int .i64 0, .int .i64 0] 62)) w.heap.size s 0 0 := ⟨by simpa using heap_alloc_new w (.cells #[.string s, .int .i64 0, .int .i64 0] 62), Nat.le_refl _⟩
  have hb1 : Below w.heap.size w (w.alloc (.cells #[.string s, .int .i64 0, .int .i64 0] 62)) := (Below.refl _ _).alloc (Nat.le_refl _) _
  have HI1 := Aside0.mk hi1; have HB1 := Aside0.mk hb1
  clear h3b hi1 hb1 H3
  by_cases hc1 : eb = 0 ∧ b > 1
  · obtain ⟨rfl, hbb⟩ := hc1
    have g1 : decide (1 < b) = true := decide_eq_true hbb
    have hr4 : res = ([], 4) := by rw [HRES.out]; unfold ref1; exact if_pos ⟨rfl, hbb⟩
    subst hr4
    clear hbb HRES
    go_enter Try.func13, Try.ntmps13
    go_wp2_with fail
    refine (tithebarnref01_Cursor_Byte.calls w.heap.size s 0 0 _ s a1 _ w _ HI1.out HB1.out H3b.out).mono ?_
    rintro e w2 ⟨rfl, hi2, hb2, hk2⟩
    have HI := Aside0.mk hi2; have HB := Aside0.mk hb2
    obtain ⟨HG, hgz⟩ := hi2
    have hcz_0 := cellS62_0 HG; have hcz_1 := cellS62_1 HG; have hcz_2 := cellS62_2 HG
    clear HG hgz hb2 hk2
    clear HI1 HB1 H3b
    go_wp2_with fail
    go_ret2
    exact ⟨_, rfl, Kd.R_nil _ _ _ _ _, HB.out⟩
  by_cases heb : ¬ eb = 0
  · have hb0 : b = 0 := (HBE.out heb)
    subst hb0
    have g1 : (eb == 0) = false := beq_eq_false_iff_ne.mpr heb
    have g2 : (eb != 0) = true := bne_iff_ne.mpr heb
    have hu : tithebarnref01_Cursor_Uint.f 100 s (a1 : Int) eb = some (0, s, (a1 : Int), eb) := by unfold tithebarnref01_Cursor_Uint.f; rw [if_neg heb]
    have HU := Aside0.mk hu
    have hr4 : res = ([], eb) := by
      have hup : uintP (curAt s a1 eb) = (0, curAt s a1 eb) := if_neg heb
      rw [HRES.out]; unfold ref1
      rw [if_neg (fun h => heb h.1), if_neg (by simp)]
      show ref2 0 (uintP (curAt s a1 eb)).1 (uintP (curAt s a1 eb)) = _
      rw [hup]
      unfold ref2
      exact (if_neg (by simp)).trans (if_neg heb)
    subst hr4
    clear hu hc1 heb HRES
    go_enter Try.func13, Try.ntmps13
    go_wp2_with fail
    refine (tithebarnref01_Cursor_Byte.calls w.heap.size s 0 0 _ s a1 _ w _ HI1.out HB1.out H3b.out).mono ?_
    rintro e w2 ⟨rfl, hi2, hb2, hk2⟩
    have HI := Aside0.mk hi2; have HB := Aside0.mk hb2
    obtain ⟨HG, hgz⟩ := hi2
    have hcz_0 := cellS62_0 HG; have hcz_1 := cellS62_1 HG; have hcz_2 := cellS62_2 HG
    clear HG hgz hb2 hk2
    clear HI1 HB1 H3b
    go_wp2_with fail
    refine (tithebarnref01_Cursor_Uint.calls 100 w.heap.size s _ _ _ s _ _ w _ HI.out HB.out HU.out).mono ?_
    clear HI HB hcz_0 hcz_1 hcz_2
    rintro e w3 ⟨rfl, hi2, hb2, hk2⟩
    have HI := Aside0.mk hi2; have HB := Aside0.mk hb2
    obtain ⟨HG, hgz⟩ := hi2
    have hcz_0 := cellS62_0 HG; have hcz_1 := cellS62_1 HG; have hcz_2 := cellS62_2 HG
    clear HG hgz hb2 hk2
    go_wp2_with fail
    go_quiet (fail)
    go_wp2_with fail
    go_ret2
    exact ⟨_, rfl, Kd.R_nil _ _ _ _ _, pw_below_drewN HB.out _⟩
  have heb : eb = 0 := Decidable.of_not_not heb
  subst heb
  have hb01 : b = 0 ∨ b = 1 := by omega
  clear hc1 hbr HBE
  rcases hb01 with rfl | rfl
  · obtain ⟨a2, n, e2, ha2, hU, hu, hn0⟩ := uintP_at 100 s a1 HFIT.out HA1.out 0 (by decide)
    have HA2 := Aside0.mk ha2; have HU := Aside0.mk hu
    replace HRES : Aside0 (res = ref2 0 n (n, curAt s a2 e2)) := ⟨by
      rw [HRES.out]; unfold ref1
      rw [if_neg (fun h => absurd h.2 (by simp)), if_neg (by simp)]
      show ref2 0 (uintP (curAt s a1 0)).1 (uintP (curAt s a1 0)) = _
      rw [hU]⟩
    obtain ⟨n, rfl⟩ : ∃ q : Nat, n = (q : Int) := ⟨n.toNat, by omega⟩
    clear ha2 hU hu hn0
    by_cases hn : (65536 : Int) < (n : Int)
    · have g1 : decide ((65536 : Int) < (n : Int)) = true := decide_eq_true hn
      have g2 : decide (65536 < n) = true := decide_eq_true (by omega)
      have hr4 : res = ([], 3) := by rw [HRES.out]; unfold ref2; rw [if_pos hn]
      subst hr4
      clear hn HRES
      go_enter Try.func13, Try.ntmps13
      go_wp2_with fail
      refine (tithebarnref01_Cursor_Byte.calls w.heap.size s 0 0 _ s a1 _ w _ HI1.out HB1.out H3b.out).mono ?_
      rintro e w2 ⟨rfl, hi2, hb2, hk2⟩
      have HI := Aside0.mk hi2; have HB := Aside0.mk hb2
      obtain ⟨HG, hgz⟩ := hi2
      have hcz_0 := cellS62_0 HG; have hcz_1 := cellS62_1 HG; have hcz_2 := cellS62_2 HG
      clear HG hgz hb2 hk2
      clear HI1 HB1 H3b
      go_wp2_with fail
      refine (tithebarnref01_Cursor_Uint.calls 100 w.heap.size s _ _ _ s _ _ w _ HI.out HB.out HU.out).mono ?_
      clear HI HB hcz_0 hcz_1 hcz_2
      rintro e w3 ⟨rfl, hi2, hb2, hk2⟩
      have HI := Aside0.mk hi2; have HB := Aside0.mk hb2
      obtain ⟨HG, hgz⟩ := hi2
      have hcz_0 := cellS62_0 HG; have hcz_1 := cellS62_1 HG; have hcz_2 := cellS62_2 HG
      clear HG hgz hb2 hk2
      go_wp2_with fail
      go_ret2
      exact ⟨_, rfl, Kd.R_nil _ _ _ _ _, HB.out⟩
    · have g1 : decide ((65536 : Int) < (n : Int)) = false := decide_eq_false hn
      have g2 : decide (65536 < n) = false := decide_eq_false (by omega)
      by_cases he2 : ¬ e2 = 0
      · have g3 : (e2 == 0) = false := beq_eq_false_iff_ne.mpr he2
        have g4 : (e2 != 0) = true := bne_iff_ne.mpr he2
        have hr4 : res = ([], e2) := by rw [HRES.out]; unfold ref2; rw [if_neg hn]; exact if_neg he2
        subst hr4
        clear hn he2 HRES
        go_enter Try.func13, Try.ntmps13
        go_wp2_with fail
        refine (tithebarnref01_Cursor_Byte.calls w.heap.size s 0 0 _ s a1 _ w _ HI1.out HB1.out H3b.out).mono ?_
        rintro e w2 ⟨rfl, hi2, hb2, hk2⟩
        have HI := Aside0.mk hi2; have HB := Aside0.mk hb2
        obtain ⟨HG, hgz⟩ := hi2
        have hcz_0 := cellS62_0 HG; have hcz_1 := cellS62_1 HG; have hcz_2 := cellS62_2 HG
        clear HG hgz hb2 hk2
        clear HI1 HB1 H3b
        go_wp2_with fail
        refine (tithebarnref01_Cursor_Uint.calls 100 w.heap.size s _ _ _ s _ _ w _ HI.out HB.out HU.out).mono ?_
        clear HI HB hcz_0 hcz_1 hcz_2
        rintro e w3 ⟨rfl, hi2, hb2, hk2⟩
        have HI := Aside0.mk hi2; have HB := Aside0.mk hb2
        obtain ⟨HG, hgz⟩ := hi2
        have hcz_0 := cellS62_0 HG; have hcz_1 := cellS62_1 HG; have hcz_2 := cellS62_2 HG
        clear HG hgz hb2 hk2
        go_wp2_with fail
        go_quiet (fail)
        go_wp2_with fail
        go_ret2
        exact ⟨_, rfl, Kd.R_nil _ _ _ _ _, pw_below_drewN HB.out _⟩
      · have he2 : e2 = 0 := Decidable.of_not_not he2
        subst he2
        replace HRES : Aside0 (res = ref3 0 n (takeP false n [] (curAt s a2 0))) := ⟨by
          rw [HRES.out]; unfold ref2
          rw [if_neg hn]
          exact (if_pos rfl).trans ((if_neg hn).trans rfl)⟩
        go_enter Try.func13, Try.ntmps13
        go_wp2_with fail
        refine (tithebarnref01_Cursor_Byte.calls w.heap.size s 0 0 _ s a1 _ w _ HI1.out HB1.out H3b.out).mono ?_
        rintro e w2 ⟨rfl, hi2, hb2, hk2⟩
        have HI := Aside0.mk hi2; have HB := Aside0.mk hb2
        obtain ⟨HG, hgz⟩ := hi2
        have hcz_0 := cellS62_0 HG; have hcz_1 := cellS62_1 HG; have hcz_2 := cellS62_2 HG
        clear HG hgz hb2 hk2
        clear HI1 HB1 H3b
        go_wp2_with fail
        refine (tithebarnref01_Cursor_Uint.calls 100 w.heap.size s _ _ _ s _ _ w _ HI.out HB.out HU.out).mono ?_
        clear HI HB hcz_0 hcz_1 hcz_2
        rintro e w3 ⟨rfl, hi2, hb2, hk2⟩
        have HI := Aside0.mk hi2; have HB := Aside0.mk hb2
        obtain ⟨HG, hgz⟩ := hi2
        have hcz_0 := cellS62_0 HG; have hcz_1 := cellS62_1 HG; have hcz_2 := cellS62_2 HG
        clear HG hgz hb2 hk2
        obtain ⟨a3, l, et, e3, ha3, htk, hwf, het, hll⟩ := takeP_at 70000 s HFIT.out false n (by omega) a2 HA2.out (by omega)
        have HA3 := Aside0.mk ha3; have HWF := Aside0.mk hwf; have HLL := Aside0.mk hll
        replace HRES : Aside0 (res = ref3 0 n ((l, et), curAt s a3 e3)) := ⟨by rw [HRES.out, htk]⟩
        have HET := Aside0.mk het
        clear ha3 htk hwf het hll
        go_wp2_with fail
        refine (tithebarnref05_words.calls 70000 w.heap.size s _ _ _ _ l et s _ _ w _ HI.out HB.out HWF.out).mono ?_
        have HBo := HB
        clear HI HB hcz_0 hcz_1 hcz_2
        rintro e w5 ⟨v5, rfl, hr5, hi2, hb2, hk2⟩
        have HR5 := Aside0.mk hr5
        clear hr5 HWF
        have HI := Aside0.mk hi2; have HB := Aside0.mk hb2
        obtain ⟨HG, hgz⟩ := hi2
        have hcz_0 := cellS62_0 HG; have hcz_1 := cellS62_1 HG; have hcz_2 := cellS62_2 HG
        clear HG hgz hb2 hk2
        by_cases hez : ¬ et = 0
        · have g5 : (et == 0) = false := beq_eq_false_iff_ne.mpr hez
          have g6 : (et != 0) = true := bne_iff_ne.mpr hez
          have hr4 : res = ([], et) := by rw [HRES.out]; unfold ref3; rw [if_neg hez]
          subst hr4
          clear hez HRES HET
          go_wp2_with fail
          go_ret2
          exact ⟨_, rfl, Kd.R_nil _ _ _ _ _, HB.out⟩
        · have hez : et = 0 := Decidable.of_not_not hez
          have he3 := HET.out hez
          subst hez; subst he3
          clear HET
          replace HRES : Aside0 (res = endP l (curAt s a3 0)) := ⟨by rw [HRES.out]; unfold ref3; rw [if_pos (rfl : (0 : Int) = 0), if_neg (by decide)]⟩
          have hdo := done3_f s a3 HFIT.out (HA3.out) 0
          obtain ⟨dv, hdv⟩ : ∃ dv, dv = doneP (curAt s a3 0) := ⟨_, rfl⟩
          rw [← hdv] at hdo
          have HDV := Aside0.mk hdv
          clear hdv
          have HDO := Aside0.mk hdo
          clear hdo
          go_wp2_with fail
          refine (tithebarnref01_Cursor_Done.calls w.heap.size s _ _ _ s _ _ w _ HI.out HB.out HDO.out).mono ?_
          have HIo := HI
          clear HI HB hcz_0 hcz_1 hcz_2
          rintro e w9 ⟨rfl, hi2, hb2, hk2⟩
          have HRz := Aside0.mk (Kd.R_mono (ok' := fun _ => True) (Kd.R_keep (Kd.R_types HR5.out HIo.out.1 (by decide)) hk2 (fun k hk => hk.2)) (fun _ _ => trivial))
          have HI := Aside0.mk hi2; have HB := Aside0.mk hb2
          obtain ⟨HG, hgz⟩ := hi2
          have hcz_0 := cellS62_0 HG; have hcz_1 := cellS62_1 HG; have hcz_2 := cellS62_2 HG
          clear HG hgz hb2 hk2
          by_cases hdz : dv = 0
          · have g9 : (dv == 0) = true := beq_iff_eq.mpr hdz
            have g8 : (dv != 0) = false := bne_eq_false_iff_eq.mpr hdz
            have hr4 : res = (l, 0) := by rw [HRES.out]; unfold endP; rw [← HDV.out, if_pos hdz]
            subst hr4
            clear hdz HRES HDO HDV
            go_wp2_with fail
            go_ret2
            exact ⟨_, rfl, Kd.R_lower HRz.out HBo.out.size, HB.out⟩
          · have g9 : (dv == 0) = false := beq_eq_false_iff_ne.mpr hdz
            have g8 : (dv != 0) = true := bne_iff_ne.mpr hdz
            have hr4 : res = ([], dv) := by rw [HRES.out]; unfold endP; rw [← HDV.out, if_neg hdz]
            subst hr4
            clear hdz HRES HDO HDV
            go_wp2_with fail
            go_ret2
            exact ⟨_, rfl, Kd.R_nil _ _ _ _ _, HB.out⟩
  · obtain ⟨a2, n, e2, ha2, hU, hu, hn0⟩ := uintP_at 100 s a1 HFIT.out HA1.out 0 (by decide)
    obtain ⟨a6, m, e6, ha6, hU6, hu6, hm0⟩ := uintP_at 100 s a2 HFIT.out ha2 e2 (by decide)
    have HA2 := Aside0.mk ha2; have HU := Aside0.mk hu; have HA6 := Aside0.mk ha6; have HU6 := Aside0.mk hu6
    replace HRES : Aside0 (res = ref2 1 n (m, curAt s a6 e6)) := ⟨by
      rw [HRES.out]; unfold ref1
      rw [if_neg (fun h => absurd h.2 (by simp)), if_pos (show ((1 : Int), curAt s a1 0).1 = 1 from rfl)]
      show ref2 1 (uintP (curAt s a1 0)).1 (uintP (uintP (curAt s a1 0)).2) = _
      rw [hU]
      show ref2 1 n (uintP (curAt s a2 e2)) = _
      rw [hU6]⟩
    obtain ⟨n, rfl⟩ : ∃ q : Nat, n = (q : Int) := ⟨n.toNat, by omega⟩
    obtain ⟨m, rfl⟩ : ∃ q : Nat, m = (q : Int) := ⟨m.toNat, by omega⟩
    clear ha2 hU hu hn0 ha6 hU6 hu6 hm0
    by_cases hn : (65536 : Int) < (n : Int)
    · have g1 : decide ((65536 : Int) < (n : Int)) = true := decide_eq_true hn
      have g2 : decide (65536 < n) = true := decide_eq_true (by omega)
      have hr4 : res = ([], 3) := by rw [HRES.out]; unfold ref2; rw [if_pos hn]
      subst hr4
      clear hn HRES
      go_enter Try.func13, Try.ntmps13
      go_wp2_with fail
      refine (tithebarnref01_Cursor_Byte.calls w.heap.size s 0 0 _ s a1 _ w _ HI1.out HB1.out H3b.out).mono ?_
      rintro e w2 ⟨rfl, hi2, hb2, hk2⟩
      have HI := Aside0.mk hi2; have HB := Aside0.mk hb2
      obtain ⟨HG, hgz⟩ := hi2
      have hcz_0 := cellS62_0 HG; have hcz_1 := cellS62_1 HG; have hcz_2 := cellS62_2 HG
      clear HG hgz hb2 hk2
      clear HI1 HB1 H3b
      go_wp2_with fail
      refine (tithebarnref01_Cursor_Uint.calls 100 w.heap.size s _ _ _ s _ _ w _ HI.out HB.out HU.out).mono ?_
      clear HI HB hcz_0 hcz_1 hcz_2
      rintro e w3 ⟨rfl, hi2, hb2, hk2⟩
      have HI := Aside0.mk hi2; have HB := Aside0.mk hb2
      obtain ⟨HG, hgz⟩ := hi2
      have hcz_0 := cellS62_0 HG; have hcz_1 := cellS62_1 HG; have hcz_2 := cellS62_2 HG
      clear HG hgz hb2 hk2
      go_wp2_with fail
      refine (tithebarnref01_Cursor_Uint.calls 100 w.heap.size s _ _ _ s _ _ w _ HI.out HB.out HU6.out).mono ?_
      clear HI HB hcz_0 hcz_1 hcz_2
      rintro e w4 ⟨rfl, hi2, hb2, hk2⟩
      have HI := Aside0.mk hi2; have HB := Aside0.mk hb2
      obtain ⟨HG, hgz⟩ := hi2
      have hcz_0 := cellS62_0 HG; have hcz_1 := cellS62_1 HG; have hcz_2 := cellS62_2 HG
      clear HG hgz hb2 hk2
      go_wp2_with fail
      go_ret2
      exact ⟨_, rfl, Kd.R_nil _ _ _ _ _, HB.out⟩
    · have g1 : decide ((65536 : Int) < (n : Int)) = false := decide_eq_false hn
      have g2 : decide (65536 < n) = false := decide_eq_false (by omega)
      by_cases he2 : ¬ e6 = 0
      · have g3 : (e6 == 0) = false := beq_eq_false_iff_ne.mpr he2
        have g4 : (e6 != 0) = true := bne_iff_ne.mpr he2
        have hr4 : res = ([], e6) := by rw [HRES.out]; unfold ref2; rw [if_neg hn]; exact if_neg he2
        subst hr4
        clear hn he2 HRES
        go_enter Try.func13, Try.ntmps13
        go_wp2_with fail
        refine (tithebarnref01_Cursor_Byte.calls w.heap.size s 0 0 _ s a1 _ w _ HI1.out HB1.out H3b.out).mono ?_
        rintro e w2 ⟨rfl, hi2, hb2, hk2⟩
        have HI := Aside0.mk hi2; have HB := Aside0.mk hb2
        obtain ⟨HG, hgz⟩ := hi2
        have hcz_0 := cellS62_0 HG; have hcz_1 := cellS62_1 HG; have hcz_2 := cellS62_2 HG
        clear HG hgz hb2 hk2
        clear HI1 HB1 H3b
        go_wp2_with fail
        refine (tithebarnref01_Cursor_Uint.calls 100 w.heap.size s _ _ _ s _ _ w _ HI.out HB.out HU.out).mono ?_
        clear HI HB hcz_0 hcz_1 hcz_2
        rintro e w3 ⟨rfl, hi2, hb2, hk2⟩
        have HI := Aside0.mk hi2; have HB := Aside0.mk hb2
        obtain ⟨HG, hgz⟩ := hi2
        have hcz_0 := cellS62_0 HG; have hcz_1 := cellS62_1 HG; have hcz_2 := cellS62_2 HG
        clear HG hgz hb2 hk2
        go_wp2_with fail
        refine (tithebarnref01_Cursor_Uint.calls 100 w.heap.size s _ _ _ s _ _ w _ HI.out HB.out HU6.out).mono ?_
        clear HI HB hcz_0 hcz_1 hcz_2
        rintro e w4 ⟨rfl, hi2, hb2, hk2⟩
        have HI := Aside0.mk hi2; have HB := Aside0.mk hb2
        obtain ⟨HG, hgz⟩ := hi2
        have hcz_0 := cellS62_0 HG; have hcz_1 := cellS62_1 HG; have hcz_2 := cellS62_2 HG
        clear HG hgz hb2 hk2
        go_wp2_with fail
        go_quiet (fail)
        go_wp2_with fail
        go_ret2
        exact ⟨_, rfl, Kd.R_nil _ _ _ _ _, pw_below_drewN HB.out _⟩
      · have he2 : e6 = 0 := Decidable.of_not_not he2
        subst he2
        by_cases hm : (65536 : Int) < (m : Int)
        · have g3 : decide ((65536 : Int) < (m : Int)) = true := decide_eq_true hm
          have g4 : decide (65536 < m) = true := decide_eq_true (by omega)
          have hr4 : res = ([], 3) := by rw [HRES.out]; unfold ref2; rw [if_neg hn]; exact (if_pos rfl).trans (if_pos hm)
          subst hr4
          clear hn hm HRES
          go_enter Try.func13, Try.ntmps13
          go_wp2_with fail
          refine (tithebarnref01_Cursor_Byte.calls w.heap.size s 0 0 _ s a1 _ w _ HI1.out HB1.out H3b.out).mono ?_
          rintro e w2 ⟨rfl, hi2, hb2, hk2⟩
          have HI := Aside0.mk hi2; have HB := Aside0.mk hb2
          obtain ⟨HG, hgz⟩ := hi2
          have hcz_0 := cellS62_0 HG; have hcz_1 := cellS62_1 HG; have hcz_2 := cellS62_2 HG
          clear HG hgz hb2 hk2
          clear HI1 HB1 H3b
          go_wp2_with fail
          refine (tithebarnref01_Cursor_Uint.calls 100 w.heap.size s _ _ _ s _ _ w _ HI.out HB.out HU.out).mono ?_
          clear HI HB hcz_0 hcz_1 hcz_2
          rintro e w3 ⟨rfl, hi2, hb2, hk2⟩
          have HI := Aside0.mk hi2; have HB := Aside0.mk hb2
          obtain ⟨HG, hgz⟩ := hi2
          have hcz_0 := cellS62_0 HG; have hcz_1 := cellS62_1 HG; have hcz_2 := cellS62_2 HG
          clear HG hgz hb2 hk2
          go_wp2_with fail
          refine (tithebarnref01_Cursor_Uint.calls 100 w.heap.size s _ _ _ s _ _ w _ HI.out HB.out HU6.out).mono ?_
          clear HI HB hcz_0 hcz_1 hcz_2
          rintro e w4 ⟨rfl, hi2, hb2, hk2⟩
          have HI := Aside0.mk hi2; have HB := Aside0.mk hb2
          obtain ⟨HG, hgz⟩ := hi2
          have hcz_0 := cellS62_0 HG; have hcz_1 := cellS62_1 HG; have hcz_2 := cellS62_2 HG
          clear HG hgz hb2 hk2
          go_wp2_with fail
          go_ret2
          exact ⟨_, rfl, Kd.R_nil _ _ _ _ _, HB.out⟩
        · have g3 : decide ((65536 : Int) < (m : Int)) = false := decide_eq_false hm
          have g4 : decide (65536 < m) = false := decide_eq_false (by omega)
          replace HRES : Aside0 (res = ref3 1 n (takeP true m [] (curAt s a6 0))) := ⟨by
            rw [HRES.out]; unfold ref2
            rw [if_neg hn]
            exact (if_pos rfl).trans ((if_neg hm).trans rfl)⟩
          go_enter Try.func13, Try.ntmps13
          go_wp2_with fail
          refine (tithebarnref01_Cursor_Byte.calls w.heap.size s 0 0 _ s a1 _ w _ HI1.out HB1.out H3b.out).mono ?_
          rintro e w2 ⟨rfl, hi2, hb2, hk2⟩
          have HI := Aside0.mk hi2; have HB := Aside0.mk hb2
          obtain ⟨HG, hgz⟩ := hi2
          have hcz_0 := cellS62_0 HG; have hcz_1 := cellS62_1 HG; have hcz_2 := cellS62_2 HG
          clear HG hgz hb2 hk2
          clear HI1 HB1 H3b
          go_wp2_with fail
          refine (tithebarnref01_Cursor_Uint.calls 100 w.heap.size s _ _ _ s _ _ w _ HI.out HB.out HU.out).mono ?_
          clear HI HB hcz_0 hcz_1 hcz_2
          rintro e w3 ⟨rfl, hi2, hb2, hk2⟩
          have HI := Aside0.mk hi2; have HB := Aside0.mk hb2
          obtain ⟨HG, hgz⟩ := hi2
          have hcz_0 := cellS62_0 HG; have hcz_1 := cellS62_1 HG; have hcz_2 := cellS62_2 HG
          clear HG hgz hb2 hk2
          go_wp2_with fail
          refine (tithebarnref01_Cursor_Uint.calls 100 w.heap.size s _ _ _ s _ _ w _ HI.out HB.out HU6.out).mono ?_
          clear HI HB hcz_0 hcz_1 hcz_2
          rintro e w4 ⟨rfl, hi2, hb2, hk2⟩
          have HI := Aside0.mk hi2; have HB := Aside0.mk hb2
          obtain ⟨HG, hgz⟩ := hi2
          have hcz_0 := cellS62_0 HG; have hcz_1 := cellS62_1 HG; have hcz_2 := cellS62_2 HG
          clear HG hgz hb2 hk2
          obtain ⟨a3, l, et, e3, ha3, htk, hwf, het, hll⟩ := takeP_at 70000 s HFIT.out true m (by omega) a6 HA6.out (by omega)
          have HA3 := Aside0.mk ha3; have HWF := Aside0.mk hwf; have HLL := Aside0.mk hll
          replace HRES : Aside0 (res = ref3 1 n ((l, et), curAt s a3 e3)) := ⟨by rw [HRES.out, htk]⟩
          have HET := Aside0.mk het
          clear ha3 htk hwf het hll
          go_wp2_with fail
          refine (tithebarnref05_words.calls 70000 w.heap.size s _ _ _ _ l et s _ _ w _ HI.out HB.out HWF.out).mono ?_
          have HBo := HB
          clear HI HB hcz_0 hcz_1 hcz_2
          rintro e w5 ⟨v5, rfl, hr5, hi2, hb2, hk2⟩
          have HR5 := Aside0.mk hr5
          clear hr5 HWF
          have HI := Aside0.mk hi2; have HB := Aside0.mk hb2
          obtain ⟨HG, hgz⟩ := hi2
          have hcz_0 := cellS62_0 HG; have hcz_1 := cellS62_1 HG; have hcz_2 := cellS62_2 HG
          clear HG hgz hb2 hk2
          by_cases hez : ¬ et = 0
          · have g5 : (et == 0) = false := beq_eq_false_iff_ne.mpr hez
            have g6 : (et != 0) = true := bne_iff_ne.mpr hez
            have hr4 : res = ([], et) := by rw [HRES.out]; unfold ref3; rw [if_neg hez]
            subst hr4
            clear hez HRES HET
            go_wp2_with fail
            go_ret2
            exact ⟨_, rfl, Kd.R_nil _ _ _ _ _, HB.out⟩
          · have hez : et = 0 := Decidable.of_not_not hez
            have he3 := HET.out hez
            subst hez; subst he3
            clear HET
            obtain ⟨a4, e4, ha4, hpf, hpz⟩ := pick_f 20000000 (Nat.le_refl _) s HFIT.out a3 n HA3.out (by omega) l HLL.out
            have HA4 := Aside0.mk ha4
            replace HRES : Aside0 (res = if (pickP l n (curAt s a3 0)).2 = 0 then endP (pickP l n (curAt s a3 0)).1 (numP n (curAt s a3 0)).2 else ([], (pickP l n (curAt s a3 0)).2)) := ⟨by rw [HRES.out]; unfold ref3; rw [if_pos (rfl : (0 : Int) = 0), if_pos (rfl : (1 : Int) = 1)]⟩
            obtain ⟨A5, c5, hv5, hc5, hC5⟩ := Kd.R_reads HR5.out
            subst hv5
            generalize pickP l n (curAt s a3 0) = pk at *
            obtain ⟨pl, pe⟩ := pk
            simp only at hpf hpz HRES
            have HPF := Aside0.mk hpf; have HPZ := Aside0.mk hpz; have HC5 := Aside0.mk hC5
            have hni : IntKind.i64.wrap (n : Int) = (n : Int) := IntWalk.i64_in _ (by omega)
            have hBs := HB.out.size
            have HBs := Aside0.mk hBs
            clear ha4 hpf hpz hC5 hBs
            go_wp2_with fail
            refine (tithebarnref05_pick.calls 20000000 w.heap.size s _ _ (n : Int) A5 c5 l pl pe s _ _ w _ HI.out HB.out HC5.out hc5 (fun ad e _ hb => IsS62.own_ne HI.out HR5.out (by decide) (by subst e; exact congrArg some hb.symm)) HPF.out).mono ?_
            clear HI HB hcz_0 hcz_1 hcz_2
            rintro e w7 ⟨v7, rfl, hr7, hi2, hb2, hk2⟩
            have HR7 := Aside0.mk hr7
            clear hr7 HPF HC5 HR5
            have HI := Aside0.mk hi2; have HB := Aside0.mk hb2
            obtain ⟨HG, hgz⟩ := hi2
            have hcz_0 := cellS62_0 HG; have hcz_1 := cellS62_1 HG; have hcz_2 := cellS62_2 HG
            clear HG hgz hb2 hk2
            by_cases hpe : ¬ pe = 0
            · have g5 : (pe == 0) = false := beq_eq_false_iff_ne.mpr hpe
              have g6 : (pe != 0) = true := bne_iff_ne.mpr hpe
              have hr4 : res = ([], pe) := by rw [HRES.out, if_neg hpe]
              subst hr4
              clear hpe HRES HPZ
              go_wp2_with fail
              go_ret2
              exact ⟨_, rfl, Kd.R_nil _ _ _ _ _, HB.out⟩
            · have hpe : pe = 0 := Decidable.of_not_not hpe
              obtain ⟨he4, hnp⟩ := HPZ.out hpe
              subst hpe; subst he4
              replace HRES : Aside0 (res = endP pl (curAt s a4 0)) := ⟨by rw [HRES.out, if_pos (rfl : (0 : Int) = 0), hnp]⟩
              clear HPZ hnp
              have hdo := done3_f s a4 HFIT.out (HA4.out) 0
              obtain ⟨dv, hdv⟩ : ∃ dv, dv = doneP (curAt s a4 0) := ⟨_, rfl⟩
              rw [← hdv] at hdo
              have HDV := Aside0.mk hdv
              clear hdv
              have HDO := Aside0.mk hdo
              clear hdo
              go_wp2_with fail
              refine (tithebarnref01_Cursor_Done.calls w.heap.size s _ _ _ s _ _ w _ HI.out HB.out HDO.out).mono ?_
              have HIo := HI
              clear HI HB hcz_0 hcz_1 hcz_2
              rintro e w9 ⟨rfl, hi2, hb2, hk2⟩
              have HRz := Aside0.mk (Kd.R_mono (ok' := fun _ => True) (Kd.R_keep (Kd.R_types HR7.out HIo.out.1 (by decide)) hk2 (fun k hk => hk.2)) (fun _ _ => trivial))
              have HI := Aside0.mk hi2; have HB := Aside0.mk hb2
              obtain ⟨HG, hgz⟩ := hi2
              have hcz_0 := cellS62_0 HG; have hcz_1 := cellS62_1 HG; have hcz_2 := cellS62_2 HG
              clear HG hgz hb2 hk2
              by_cases hdz : dv = 0
              · have g9 : (dv == 0) = true := beq_iff_eq.mpr hdz
                have g8 : (dv != 0) = false := bne_eq_false_iff_eq.mpr hdz
                have hr4 : res = (pl, 0) := by rw [HRES.out]; unfold endP; rw [← HDV.out, if_pos hdz]
                subst hr4
                clear hdz HRES HDO HDV
                go_wp2_with fail
                go_ret2
                exact ⟨_, rfl, Kd.R_lower HRz.out HBs.out, HB.out⟩
              · have g9 : (dv == 0) = false := beq_eq_false_iff_ne.mpr hdz
                have g8 : (dv != 0) = true := bne_iff_ne.mpr hdz
                have hr4 : res = ([], dv) := by rw [HRES.out]; unfold endP; rw [← HDV.out, if_neg hdz]
                subst hr4
                clear hdz HRES HDO HDV
                go_wp2_with fail
                go_ret2
                exact ⟨_, rfl, Kd.R_nil _ _ _ _ _, HB.out⟩
end Go.Proofs.Ytimjafjicnlhfaa.A
