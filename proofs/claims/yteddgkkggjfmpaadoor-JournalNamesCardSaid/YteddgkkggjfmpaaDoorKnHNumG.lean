/- journal.Number of every name, in every world that holds strconv's table and errors. -/
import Derived.Test.YteddgkkggjfmpaaDoorKnAx0
import Derived.Test.YteddgkkggjfmpaaDoorKnAx2
import Derived.Test.YteddgkkggjfmpaaDoorKnHTab
import Derived.Test.YteddgkkggjfmpaaDoorKnHPNames
namespace Go.Proofs.YteddgkkggjfmpaaDoor.A
open Go.RowKit Go.Proofs.YteddgkkggjfmpaaDoorW.PrintWords Go.Proofs.YteddgkkggjfmpaaDoorW.PrintLast Go.Proofs.YteddgkkggjfmpaaDoorW.PrintMore
open Go.Lib
set_option linter.unusedVariables false
set_option linter.unusedSimpArgs false
theorem cut_f (letter name : ByteArray) : strings_CutPrefix.f name letter = some (cutP letter name, oursP letter name) := by
  have hp : stringslite_HasPrefix.f name letter = some (oursP letter name) := by
    unfold stringslite_HasPrefix.f oursP
    by_cases h : letter.size ≤ name.size
    · rw [if_pos (by omega), if_pos (by omega), if_pos (by omega), Int.toNat_natCast]
      congr 1
      rw [ByteArray.toList_eq, ByteArray.toList_eq]
      have e : (name.extract 0 letter.size).data.toList = name.data.toList.take letter.size := by
        rw [ByteArray.data_extract, Array.toList_extract, List.extract_eq_take_drop, List.drop_zero, Nat.sub_zero]
      rw [e]
      by_cases h2 : name.data.toList.take letter.size = letter.data.toList
      · rw [decide_eq_true h2, h2]; exact beq_self_eq_true _
      · rw [decide_eq_false h2]; exact beq_eq_false_iff_ne.2 h2
    · rw [if_neg (by omega)]
      congr 1
      symm
      apply decide_eq_false
      intro h2
      have := congrArg List.length h2
      rw [List.length_take, sz_len, sz_len] at this
      omega
  unfold strings_CutPrefix.f stringslite_CutPrefix.f
  rw [hp]
  simp only [Option.bind_some]
  cases ho : oursP letter name with
  | false =>
    rw [if_neg (by decide)]
    simp only [Option.bind_some]
    unfold cutP
    rw [ho, if_neg (by decide)]
  | true =>
    have hle : letter.size ≤ name.size := by
      have h2 := of_decide_eq_true ho
      have := congrArg List.length h2
      rw [List.length_take, sz_len, sz_len] at this
      omega
    rw [if_pos rfl, if_pos (by omega), if_pos (by omega), Int.toNat_natCast]
    simp only [Option.bind_some]
    unfold cutP
    rw [ho, if_pos rfl]
theorem cut_size (letter name : ByteArray) : (cutP letter name).size ≤ name.size := by
  unfold cutP
  split
  · rw [ByteArray.size_extract]; omega
  · exact Nat.le_refl _
theorem atoi_any (s : ByteArray) (hs : s.size ≤ 200000000000000) (w : World) (hG : Globs w) :
    Calls Tryd.prog 18 #[.string s] w fun e w' => Below w.heap.size w w' ∧ ((∃ v, atoiAll s.data.toList = .ok v ∧ e = .returned (.tuple #[.int .i64 v, .nilIface])) ∨ ((∀ v, atoiAll s.data.toList ≠ .ok v) ∧ ∃ (n : Int) (N : Nat), e = .returned (.tuple #[.int .i64 n, .iface 109 (.pointer (some ⟨N, 0, none⟩))]))) := by
  by_cases hok : ∃ v, atoiAll s.data.toList = .ok v
  · obtain ⟨v, hv⟩ := hok
    refine (Tryd.strconv_Atoi_ok s (by omega) v hv w).mono ?_
    rintro e w2 ⟨rfl, hw2⟩
    refine ⟨?_, .inl ⟨v, hv, rfl⟩⟩
    rcases hw2 with rfl | ⟨t, rfl⟩
    · exact Below.refl _ _
    · exact bytes_below (Below.refl _ _) (Nat.le_refl _) _ t
  · have hno : ∀ v, atoiAll s.data.toList ≠ .ok v := fun v hv => hok ⟨v, hv⟩
    by_cases hr : atoiAll s.data.toList = .range
    · obtain ⟨ev, h1, h2⟩ := hG.rng
      refine (Tryd.strconv_Atoi_range s (by omega) hr ev w h1 h2).mono ?_
      rintro e w2 ⟨N, rfl, _, _, hb⟩
      exact ⟨hb, .inr ⟨hno, _, N, rfl⟩⟩
    · obtain ⟨ev, h1, h2⟩ := hG.syn
      refine (Tryd.strconv_Atoi_bad s (by omega) hno hr ev w h1 h2).mono ?_
      rintro e w2 ⟨N, rfl, _, _, hb⟩
      exact ⟨hb, .inr ⟨hno, 0, N, rfl⟩⟩
theorem atoi_in {l : List UInt8} {v : Int} (h : atoiAll l = .ok v) : -9223372036854775808 ≤ v ∧ v ≤ 9223372036854775807 := by
  unfold atoiAll at h
  split at h
  · cases h
  · simp only [] at h
    split at h
    · cases h
    · cases h
    · split at h
      · cases h
      · split at h
        · cases h
        · rename_i u _ h1 h2
          injection h with h
          subst h
          split <;> omega
def journal_NumberG.f (letter name : ByteArray) : Option (Int × Bool) := if letter.size ≤ 200000000000000 ∧ name.size ≤ 200000000000000 then some (numberP letter name) else none
set_option maxHeartbeats 8000000 in
theorem journal_NumberG.calls (a0 a1 : ByteArray) (r1 : Int) (r2 : Bool) (w : World) (h : journal_NumberG.f a0 a1 = some (r1, r2)) (hG : Globs w) :
    Calls Tryd.prog 8 #[.string a0, .string a1] w fun e w' => e = .returned (.tuple #[.int .i64 r1, .bool r2]) ∧ Below w.heap.size w w' := by
  unfold journal_NumberG.f at h
  have hs : a0.size ≤ 200000000000000 ∧ a1.size ≤ 200000000000000 := by
    by_cases hs : a0.size ≤ 200000000000000 ∧ a1.size ≤ 200000000000000
    · exact hs
    · rw [if_neg hs] at h; exact absurd h (by simp)
  rw [if_pos hs] at h
  have h := Option.some.inj h
  unfold numberP at h
  have hcut := cut_f a0 a1
  have hd := Nat.le_trans (cut_size a0 a1) hs.2
  generalize cutP a0 a1 = d at *
  generalize oursP a0 a1 = ours at *
  have HC := Aside0.mk hcut; have HD := Aside0.mk hd; have HG := Aside0.mk hG; have HH := Aside0.mk h
  clear hcut hd hG h hs
  go_enter Tryd.func8, Tryd.ntmps8
  go_wp2_with fail
  refine (strings_CutPrefix.calls _ _ _ _ w HC.out).mono ?_
  rintro e w1 ⟨rfl, ⟨q1, rfl⟩⟩
  have HB1 := Aside0.mk (pw_below_drewN (Below.refl w.heap.size w) q1)
  generalize w.drewN q1 = w1 at *
  go_wp2_with fail
  refine (atoi_any d HD.out w1 (HG.out.below HB1.out)).mono ?_
  rintro e w2 ⟨hb2, hcase⟩
  have HB2 := Aside0.mk (HB1.out.trans (hb2.mono HB1.out.size))
  clear hb2
  have h := HH.out
  rcases hcase with ⟨v, hv, rfl⟩ | ⟨hno, n, N, rfl⟩
  · have hvi := atoi_in hv
    have hnum : numberD ours d = if ours = true ∧ 0 ≤ v ∧ v ≤ 999999999 ∧ itoa v = d.data.toList then (v, true) else (0, false) := by
      unfold numberD
      rw [hv]
    rw [hnum] at h
    have HV := Aside0.mk hvi
    clear hnum hv hvi HH
    cases ours with
    | false =>
      rw [if_neg (by simp)] at h
      injection h with e1 e2
      subst e1; subst e2
      go_wp2_with fail
      go_ret2
      exact ⟨rfl, HB2.out⟩
    | true =>
      by_cases h0 : v < 0
      · rw [if_neg (by omega)] at h
        injection h with e1 e2
        subst e1; subst e2
        have c0 : decide (v < 0) = true := decide_eq_true h0
        clear h0
        go_wp2_with fail
        go_ret2
        exact ⟨rfl, HB2.out⟩
      · have c0 : decide (v < 0) = false := decide_eq_false h0
        by_cases h1 : 999999999 < v
        · rw [if_neg (by omega)] at h
          injection h with e1 e2
          subst e1; subst e2
          have c1 : decide (999999999 < v) = true := decide_eq_true h1
          clear h0 h1
          go_wp2_with fail
          go_ret2
          exact ⟨rfl, HB2.out⟩
        · have c1 : decide (999999999 < v) = false := decide_eq_false h1
          have HR : Aside0 (0 ≤ v ∧ v ≤ 999999999) := ⟨by omega⟩
          obtain ⟨txt, htxt, htf⟩ : ∃ t : ByteArray, t.data.toList = itoa v ∧ strconv_ItoaG.f v = some t := ⟨⟨(itoa v).toArray⟩, rfl, by unfold strconv_ItoaG.f; rw [if_pos HV.out]⟩
          have HIT := Aside0.mk htxt; have HTF := Aside0.mk htf
          clear htxt htf
          clear h0 h1
          have HH := Aside0.mk h
          clear h
          go_wp2_with fail
          refine (strconv_ItoaG.calls v txt w2 HTF.out (HG.out.below HB2.out)).mono ?_
          rintro e w3 ⟨rfl, hb3⟩
          have HB3 := Aside0.mk (HB2.out.trans (hb3.mono HB2.out.size))
          clear hb3
          have h := HH.out
          by_cases he : itoa v = d.data.toList
          · rw [if_pos (by refine ⟨?_, HR.out.1, HR.out.2, he⟩; trivial)] at h
            injection h with e1 e2
            subst e1; subst e2
            obtain rfl : txt = d := ba_ext' (HIT.out.trans he)
            clear he HH HIT
            go_wp2_with fail
            go_ret2
            exact ⟨rfl, HB3.out⟩
          · rw [if_neg (fun hc => he hc.2.2.2)] at h
            injection h with e1 e2
            subst e1; subst e2
            have hne : (txt.toList == d.toList) = false := by
              rw [ByteArray.toList_eq, ByteArray.toList_eq, HIT.out]
              exact beq_eq_false_iff_ne.2 he
            have hne2 : (txt.toList != d.toList) = true := by
              rw [ByteArray.toList_eq, ByteArray.toList_eq, HIT.out]
              exact bne_iff_ne.2 he
            clear he HH HIT
            go_wp2_with fail
            go_ret2
            exact ⟨rfl, HB3.out⟩
  · have hnum : numberD ours d = (0, false) := by
      unfold numberD
      cases ha : atoiAll d.data.toList with
      | ok v => exact absurd ha (hno v)
      | _ => rfl
    rw [hnum] at h
    injection h with e1 e2
    subst e1; subst e2
    clear hnum hno HH
    cases ours with
    | false =>
      go_wp2_with fail
      go_ret2
      exact ⟨rfl, HB2.out⟩
    | true =>
      go_wp2_with fail
      go_ret2
      exact ⟨rfl, HB2.out⟩
end Go.Proofs.YteddgkkggjfmpaaDoor.A
