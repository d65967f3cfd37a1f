/- The reader's ask; on every reader and word, in every world that holds strconv's table and errors. -/
import Derived.Test.YtglcajijmkianaaDoorAx0
import Derived.Test.YtglcajijmkianaaDoorAx2
import Derived.Test.YtglcajijmkianaaDoorHNum
namespace Go.Proofs.YtglcajijmkianaaDoor.A
open Go.RowKit Go.Proofs.YtglcajijmkianaaDoorW.PrintWords Go.Proofs.YtglcajijmkianaaDoorW.PrintLast Go.Proofs.YtglcajijmkianaaDoorW.PrintMore
open Go.Lib
set_option linter.unusedVariables false
set_option linter.unusedSimpArgs false

def signsL : List ByteArray := [(⟨#[]⟩ : ByteArray), (⟨#[61]⟩ : ByteArray), (⟨#[60]⟩ : ByteArray), (⟨#[62, 61]⟩ : ByteArray), (⟨#[110, 117, 108, 108]⟩ : ByteArray), (⟨#[118, 97, 108, 117, 101]⟩ : ByteArray)]
def opOf (w : ByteArray) : Int := if w.toList = [] then 0 else if w.toList = [61] then 1 else if w.toList = [60] then 2 else if w.toList = [62, 61] then 3 else if w.toList = [110, 117, 108, 108] then 4 else if w.toList = [118, 97, 108, 117, 101] then 5 else -1
theorem index_signs (w : ByteArray) : slices_Index_string_string.f 7 signsL w = some (opOf w) := by
  have t0 : (⟨#[]⟩ : ByteArray).toList = [] := by rw [ByteArray.toList_eq]
  have t1 : (⟨#[61]⟩ : ByteArray).toList = [61] := by rw [ByteArray.toList_eq]
  have t2 : (⟨#[60]⟩ : ByteArray).toList = [60] := by rw [ByteArray.toList_eq]
  have t3 : (⟨#[62, 61]⟩ : ByteArray).toList = [62, 61] := by rw [ByteArray.toList_eq]
  have t4 : (⟨#[110, 117, 108, 108]⟩ : ByteArray).toList = [110, 117, 108, 108] := by rw [ByteArray.toList_eq]
  have t5 : (⟨#[118, 97, 108, 117, 101]⟩ : ByteArray).toList = [118, 97, 108, 117, 101] := by rw [ByteArray.toList_eq]
  have r : ∀ i : Nat, rdOf ByteArray.empty signsL (i : Int) = signsL.getD i ByteArray.empty := fun i => by simp [rdOf]
  unfold slices_Index_string_string.f opOf
  have hw : ∀ i : Int, 0 ≤ i → i < 10 → wrap64 (i + 1) = i + 1 := fun i h0 h1 => by unfold wrap64; omega
  simp only [slices_Index_string_string.l0, show ((signsL.length : Int)) = 6 from rfl, show wrap64 ((0 : Int) + 1) = 1 from hw 0 (by omega) (by omega), show wrap64 ((1 : Int) + 1) = 2 from hw 1 (by omega) (by omega), show wrap64 ((2 : Int) + 1) = 3 from hw 2 (by omega) (by omega), show wrap64 ((3 : Int) + 1) = 4 from hw 3 (by omega) (by omega), show wrap64 ((4 : Int) + 1) = 5 from hw 4 (by omega) (by omega), show wrap64 ((5 : Int) + 1) = 6 from hw 5 (by omega) (by omega),
    show rdOf ByteArray.empty signsL (0 : Int) = (⟨#[]⟩ : ByteArray) from rfl, show rdOf ByteArray.empty signsL (1 : Int) = (⟨#[61]⟩ : ByteArray) from rfl, show rdOf ByteArray.empty signsL (2 : Int) = (⟨#[60]⟩ : ByteArray) from rfl, show rdOf ByteArray.empty signsL (3 : Int) = (⟨#[62, 61]⟩ : ByteArray) from rfl,
    show rdOf ByteArray.empty signsL (4 : Int) = (⟨#[110, 117, 108, 108]⟩ : ByteArray) from rfl, show rdOf ByteArray.empty signsL (5 : Int) = (⟨#[118, 97, 108, 117, 101]⟩ : ByteArray) from rfl, t0, t1, t2, t3, t4, t5]
  simp [apply_ite some]

/-- What ask reads: the ask, the words left, whether something is wrong. -/
def askF (l : List ByteArray) (bad : Bool) (col : ByteArray) : S25 × List ByteArray × Bool :=
  let n := numF col
  let r1 := nextF l ((bad || !n.2) || !(decide (0 ≤ n.1) && decide (n.1 < 6)))
  let op := opOf r1.1
  let b4 := r1.2.2 || !(decide (0 < op))
  if 0 < op ∧ op < 4 then
    let r2 := nextF r1.2.1 b4
    if r2.1.toList.take 1 = [39] then (⟨op, n.1, ⟨false, 0, r2.1.extract 1 r2.1.size⟩⟩, r2.2.1, r2.2.2 || !(decide (1 < r2.1.size)))
    else (⟨op, n.1, ⟨false, (numF r2.1).1, ⟨#[]⟩⟩⟩, r2.2.1, r2.2.2 || !(numF r2.1).2)
  else (⟨op, n.1, ⟨false, 0, ⟨#[]⟩⟩⟩, r1.2.1, b4)

theorem opOf_range (w : ByteArray) : -1 ≤ opOf w ∧ opOf w ≤ 5 := by
  unfold opOf
  repeat' split
  all_goals omega
theorem cut_quote (w : ByteArray) : strings_CutPrefix.f w ⟨#[39]⟩ = some (if w.toList.take 1 = [39] then (w.extract 1 w.size, true) else (w, false)) := by
  have hs : (⟨#[39]⟩ : ByteArray).size = 1 := rfl
  have ht : (⟨#[39]⟩ : ByteArray).toList = [39] := by rw [ByteArray.toList_eq]
  simp only [strings_CutPrefix.f, stringslite_CutPrefix.f, stringslite_HasPrefix.f, hs, ht]
  by_cases h : 1 ≤ w.size
  · have h2 : (w.extract 0 1).toList = w.toList.take 1 := by
      rw [ByteArray.toList_eq, ByteArray.toList_eq]; simp
    rw [if_pos (by omega), if_pos (by omega), if_pos (by omega)]
    simp only [Int.toNat_natCast, h2, Option.bind_some]
    by_cases h3 : w.toList.take 1 = [39]
    · have h' : (1 : Int) ≤ (w.size : Int) := by omega
      simp [h3, h']
    · simp [h3]
  · have h0 : w.toList = [] := by
      rw [ByteArray.toList_eq]
      exact List.eq_nil_of_length_eq_zero (by rw [data_length]; omega)
    rw [if_neg (by omega)]
    simp [h0]
theorem chk_ways (n : Int) (c : Bool) (h : (decide (0 ≤ n) && decide (n < 6)) = c) : (n < 0 ∧ c = false) ∨ (0 ≤ n ∧ n < 6 ∧ c = true) ∨ (0 ≤ n ∧ decide (n < 6) = false ∧ c = false) := by
  subst h
  by_cases h0 : 0 ≤ n
  · by_cases h1 : n < 6
    · exact .inr (.inl ⟨h0, h1, by simp [h0, h1]⟩)
    · exact .inr (.inr ⟨h0, decide_eq_false h1, by simp [h1]⟩)
  · exact .inl ⟨by omega, by simp [h0]⟩
theorem op_ways (n : Int) (h : -1 ≤ n ∧ n ≤ 5) : decide (0 < n) = false ∨ (0 < n ∧ n < 4) ∨ (0 < n ∧ decide (n < 4) = false) := by
  by_cases h0 : 0 < n
  · by_cases h1 : n < 4
    · exact .inr (.inl ⟨h0, h1⟩)
    · exact .inr (.inr ⟨h0, decide_eq_false h1⟩)
  · exact .inl (decide_eq_false h0)

set_option maxRecDepth 100000 in
set_option maxHeartbeats 16000000 in
theorem ask.calls (w0 w : World) (g : Nat) (l : List ByteArray) (bad : Bool) (col : ByteArray) (hI : IsRd w0 w g l bad) (hB : Below w0.heap.size w0 w) (hG : Globs w0) (hs : col.size ≤ 281474976710656) :
    Calls Tryd.prog 56 #[.pointer (some ⟨g, 0, none⟩), .string col] w fun e w' => e = .returned (.agg #[.int .i64 1, .int .i64 (askF l bad col).1.f0, .int .i64 (askF l bad col).1.f1, .bool (askF l bad col).1.f2.f0, .int .i64 (askF l bad col).1.f2.f1, .string (askF l bad col).1.f2.f2, .slice none 0 0]) ∧ RdStep w0 w w' g (askF l bad col).2.1 (askF l bad col).2.2 := by
  have HI := Aside0.mk (RdStep.start hI hB)
  have HI00 := Aside0.mk hB.size
  have HG := Aside0.mk hG
  have hu28 := Tryd.underlying28
  have hu25 := Tryd.underlying25
  have hu23 := Tryd.underlying23
  have hgb := hI.lt
  obtain ⟨chk, hchk⟩ : ∃ c, (decide (0 ≤ (numF col).1) && decide ((numF col).1 < 6)) = c := ⟨_, rfl⟩
  have hways := chk_ways _ _ hchk
  have hnum := fun W1 hI1 hB1 => number.calls w0 W1 g l bad col hI1 hB1 hG hs
  have HA : Aside0 (askF l bad col = (
      let r1 := nextF l ((bad || !(numF col).2) || !chk)
      let op := opOf r1.1
      let b4 := r1.2.2 || !(decide (0 < op))
      if 0 < op ∧ op < 4 then
        let r2 := nextF r1.2.1 b4
        if r2.1.toList.take 1 = [39] then (⟨op, (numF col).1, ⟨false, 0, r2.1.extract 1 r2.1.size⟩⟩, r2.2.1, r2.2.2 || !(decide (1 < r2.1.size)))
        else (⟨op, (numF col).1, ⟨false, (numF r2.1).1, ⟨#[]⟩⟩⟩, r2.2.1, r2.2.2 || !(numF r2.1).2)
      else (⟨op, (numF col).1, ⟨false, 0, ⟨#[]⟩⟩⟩, r1.2.1, b4))) := ⟨by rw [← hchk]; rfl⟩
  generalize (numF col).1 = n at hways hnum HA hchk
  generalize (numF col).2 = n2 at hnum HA
  generalize askF l bad col = res at HA ⊢
  have HN := Aside0.mk hnum
  clear hI hB hG hchk hnum
  rcases hways with ⟨m0, hc⟩ | ⟨m0, m1, hc⟩ | ⟨m0, m1, hc⟩
  all_goals
    subst hc
    go_enter Tryd.func56, Tryd.ntmps56
    go_wp2_with fail
    have K4 := blk_new w (Obj.cells #[Value.int IntKind.i64 0, Value.int IntKind.i64 0, Value.int IntKind.i64 0, Value.bool false, Value.int IntKind.i64 0, Value.string { data := #[] }, Value.slice none 0 0] 28)
    have HI1 := HI.out.below (below_alloc (Below.refl _ _) (Obj.cells #[Value.int IntKind.i64 0, Value.int IntKind.i64 0, Value.int IntKind.i64 0, Value.bool false, Value.int IntKind.i64 0, Value.string { data := #[] }, Value.slice none 0 0] 28))
    generalize w.alloc _ = W1 at K4 HI1 ⊢
    generalize hb4 : w.heap.size = b4 at K4 hgb ⊢
    have n4 : b4 ≠ g := by omega
    have HI1 := Aside0.mk HI1
    have HN4 := Aside0.mk n4
    have K4 := Aside0.mk K4
    have HB4 := Aside0.mk hb4
    clear hb4 n4 hgb HI
    refine (HN.out W1 HI1.out.1 HI1.out.2.1).mono ?_
    rintro e w2 ⟨rfl, hS⟩
    have HI2 := Aside0.mk (HI1.out.then hS)
    have K4b := Aside0.mk (hS.blk K4.out HN4.out)
    clear hS K4 HI1 HN
    go_wp2_with fail
    refine (must.calls w0 w2 g l _ _ HI2.out.1 HI2.out.2.1).mono ?_
    rintro e w3 ⟨rfl, hS⟩
    have HI3 := Aside0.mk (HI2.out.then hS)
    have K4c := Aside0.mk (hS.blk K4b.out HN4.out)
    clear hS K4b HI2
    go_wp2_with fail
    refine (query_signs.calls signsL w3 rfl).mono ?_
    rintro e w4 ⟨v0, rfl, hR, hb⟩
    obtain ⟨A, c, rfl, hlc, hC⟩ := Kd.R_reads hR
    have hg3 := HI3.out.1.lt
    have HCF := Aside0.mk (Kd.C_foot_own (g := g) (Kd.R_bound hR) (fun k hk => by have := hk.2.1; omega))
    have HI4 := Aside0.mk (HI3.out.below hb)
    have K4d := Aside0.mk ((hb.block _ (blk_lt K4c.out)).trans K4c.out)
    clear hR hb hC K4c HI3 hg3
    go_wp2_with fail
    refine (next.calls w0 w4 g l _ HI4.out.1 HI4.out.2.1).mono ?_
    rintro e w5 ⟨rfl, hS⟩
    have HI5 := Aside0.mk (HI4.out.then hS)
    have K4e := Aside0.mk (hS.blk K4d.out HN4.out)
    have HC5 := Aside0.mk (HCF.out w5 hS.2.2)
    clear hS K4d HI4 HCF
    generalize hr1 : nextF l _ = r1 at HA HI5 ⊢
    obtain ⟨wd1, l1, b1⟩ := r1
    have hor := opOf_range wd1
    have hidx := fun W hC => slices_Index_string_string.calls 7 A c signsL wd1 (opOf wd1) W hC hlc (index_signs wd1)
    generalize hop : opOf wd1 = op at HA hor hidx
    have HIDX := Aside0.mk hidx
    have HOR := Aside0.mk hor
    clear hidx hop hr1 hlc hor
    generalize hsl : signsL.length = sn at HC5 HIDX ⊢
    clear hsl
    go_wp2_with fail
    refine (HIDX.out w5 HC5.out).mono ?_
    rintro e w6 ⟨rfl, ⟨m6, rfl⟩⟩
    have HI6 : Aside0 (RdStep w0 w (w5.drewN m6) g l1 b1) := ⟨HI5.out.below (pw_below_drewN (Below.refl _ _) m6)⟩
    have K4f : Aside0 ((w5.drewN m6).heap[b4]? = _) := ⟨K4e.out⟩
    generalize w5.drewN m6 = w6 at HI6 K4f ⊢
    clear HI5 K4e HC5 HIDX
    rcases op_ways op HOR.out with o1 | ⟨o1, o2⟩ | ⟨o1, o2⟩
    · go_wp2_with fail
      refine (must.calls w0 w6 g l1 _ _ HI6.out.1 HI6.out.2.1).mono ?_
      rintro e w7 ⟨rfl, hS⟩
      have HI7 := Aside0.mk (HI6.out.then hS)
      have K4g := Aside0.mk (hS.blk K4f.out HN4.out)
      clear hS HI6 K4f
      have hk4 := K4g.out
      have q0 := (blk_cell hk4 0).trans rfl
      have q1 := (blk_cell hk4 1).trans rfl
      have q2 := (blk_cell hk4 2).trans rfl
      have q3 := (blk_cell hk4 3).trans rfl
      have q4 := (blk_cell hk4 4).trans rfl
      have q5 := (blk_cell hk4 5).trans rfl
      have q6 := (blk_cell hk4 6).trans rfl
      have z0 := blk_frozen hk4 0
      have z1 := blk_frozen hk4 1
      have z2 := blk_frozen hk4 2
      have z3 := blk_frozen hk4 3
      have z4 := blk_frozen hk4 4
      have z5 := blk_frozen hk4 5
      have z6 := blk_frozen hk4 6
      have hlt := blk_lt K4g.out
      clear hk4
      go_wp2_with fail
      have hge : w.heap.size ≤ b4 := by have := HB4.out; omega
      have hge0 : w0.heap.size ≤ b4 := Nat.le_trans HI00.out hge
      refine bodyPost_ret (v := .agg #[.int .i64 1, .int .i64 op, .int .i64 n, .bool false, .int .i64 0, .string ⟨#[]⟩, .slice none 0 0]) (by simp [results, Tryd.results56, go_sem, hlt, q0, q1, q2, q3, q4, q5, q6]) rfl ⟨?_, ?_⟩
      · rw [HA.out, if_neg (by simp at o1; omega)]
      · rw [HA.out, if_neg (by simp at o1; omega)]
        show RdStep w0 w _ g l1 (b1 || !(decide (0 < op)))
        rw [o1]
        refine RdStep.below ?_ (below_alloc (Below.refl _ _) _)
        iterate 7 refine RdStep.far ?_ HN4.out hge hge0 _
        exact HI7.out
    · go_wp2_with fail
      refine (must.calls w0 w6 g l1 _ _ HI6.out.1 HI6.out.2.1).mono ?_
      rintro e w7 ⟨rfl, hS⟩
      have HI7 := Aside0.mk (HI6.out.then hS)
      have K4g := Aside0.mk (hS.blk K4f.out HN4.out)
      clear hS HI6 K4f
      go_wp2_with fail
      have K7 := blk_new w7 (Obj.cells #[.int .i64 op, .int .i64 n, .bool false, .int .i64 0, .string ⟨#[]⟩] 25)
      have HI7b := HI7.out.below (below_alloc (Below.refl _ _) (Obj.cells #[.int .i64 op, .int .i64 n, .bool false, .int .i64 0, .string ⟨#[]⟩] 25))
      have K4h := ((below_alloc (Below.refl _ w7) (Obj.cells #[.int .i64 op, .int .i64 n, .bool false, .int .i64 0, .string ⟨#[]⟩] 25)).block _ (blk_lt K4g.out)).trans K4g.out
      have hg7 := HI7.out.1.lt
      have h47 := blk_lt K4g.out
      have hw7 := HI7.out.globs_le
      generalize w7.alloc _ = W7 at K7 HI7b K4h ⊢
      generalize hb7 : w7.heap.size = b7 at K7 hg7 h47 hw7 ⊢
      have n7 : b7 ≠ g := by omega
      have n47 : b4 ≠ b7 := by omega
      have HI7b := Aside0.mk HI7b
      have HN7 := Aside0.mk n7
      have HN47 := Aside0.mk n47
      have HW7 := Aside0.mk hw7
      have K7 := Aside0.mk K7
      have K4h := Aside0.mk K4h
      clear hb7 n7 n47 hg7 h47 hw7 HI7 K4g
      have HA2 : Aside0 (res = (let r2 := nextF l1 (b1 || !true); if r2.1.toList.take 1 = [39] then (⟨op, n, ⟨false, 0, r2.1.extract 1 r2.1.size⟩⟩, r2.2.1, r2.2.2 || !(decide (1 < r2.1.size))) else (⟨op, n, ⟨false, (numF r2.1).1, ⟨#[]⟩⟩⟩, r2.2.1, r2.2.2 || !(numF r2.1).2))) := ⟨by rw [HA.out, if_pos ⟨o1, o2⟩, decide_eq_true o1]⟩
      have hwd2 := nextF_size HI7b.out.1
      refine (next.calls w0 W7 g l1 _ HI7b.out.1 HI7b.out.2.1).mono ?_
      rintro e w8 ⟨rfl, hS⟩
      have HI8 := Aside0.mk (HI7b.out.then hS)
      have K4i := Aside0.mk (hS.blk K4h.out HN4.out)
      have K7i := Aside0.mk (hS.blk K7.out HN7.out)
      clear hS K4h K7 HI7b HA
      generalize hr2 : nextF l1 _ = r2 at HA2 HI8 hwd2 ⊢
      obtain ⟨wd2, l2, b2⟩ := r2
      clear hr2
      have HWD := Aside0.mk hwd2
      clear hwd2
      by_cases hq : wd2.toList.take 1 = [39]
      · have hcut := fun W => strings_CutPrefix.calls wd2 ⟨#[39]⟩ (wd2.extract 1 wd2.size) true W (by rw [cut_quote, if_pos hq])
        have HA3 : Aside0 (res = (⟨op, n, ⟨false, 0, wd2.extract 1 wd2.size⟩⟩, l2, b2 || !(decide (1 < wd2.size)))) := ⟨by rw [HA2.out]; exact if_pos hq⟩
        have hsz : (wd2.extract 1 wd2.size).size = wd2.size - 1 := by simp
        have hne : ∀ c, decide (1 < wd2.size) = c → ((wd2.extract 1 wd2.size).toList.isEmpty = !c) := fun c hc => by
          subst hc
          rw [Bool.eq_iff_iff]
          simp only [List.isEmpty_iff, Bool.not_eq_true', decide_eq_false_iff_not]
          rw [ByteArray.toList_eq, ← List.length_eq_zero_iff, data_length, hsz]
          omega
        obtain ⟨cb, hcb⟩ : ∃ c, decide (1 < wd2.size) = c := ⟨_, rfl⟩
        have hemp := hne cb hcb
        rw [hcb] at HA3
        generalize wd2.extract 1 wd2.size = tx at hcut HA3 hemp
        clear hsz hne hcb hq HA2
        cases cb
        all_goals
          go_wp2_with fail
          refine (hcut w8).mono ?_
          rintro e w9 ⟨rfl, ⟨m9, rfl⟩⟩
          have HI9 : Aside0 (RdStep w0 w (w8.drewN m9) g l2 b2) := ⟨HI8.out.below (pw_below_drewN (Below.refl _ _) m9)⟩
          have K4j : Aside0 ((w8.drewN m9).heap[b4]? = _) := ⟨K4i.out⟩
          have K7j : Aside0 ((w8.drewN m9).heap[b7]? = _) := ⟨K7i.out⟩
          generalize w8.drewN m9 = w9 at HI9 K4j K7j ⊢
          clear HI8 K4i K7i hcut
          go_wp2_with fail
          refine (must.calls w0 w9 g l2 _ _ HI9.out.1 HI9.out.2.1).mono ?_
          rintro e w10 ⟨rfl, hS⟩
          have HI10 := Aside0.mk (HI9.out.then hS)
          have K4k := Aside0.mk (hS.blk K4j.out HN4.out)
          have K7k := Aside0.mk (hS.blk K7j.out HN7.out)
          clear hS HI9 K4j K7j
          have hk4 := K4k.out
          have q0 := (blk_cell hk4 0).trans rfl
          have q1 := (blk_cell hk4 1).trans rfl
          have q2 := (blk_cell hk4 2).trans rfl
          have q3 := (blk_cell hk4 3).trans rfl
          have q4 := (blk_cell hk4 4).trans rfl
          have q5 := (blk_cell hk4 5).trans rfl
          have q6 := (blk_cell hk4 6).trans rfl
          have z0 := blk_frozen hk4 0
          have z1 := blk_frozen hk4 1
          have z2 := blk_frozen hk4 2
          have z3 := blk_frozen hk4 3
          have z4 := blk_frozen hk4 4
          have z5 := blk_frozen hk4 5
          have z6 := blk_frozen hk4 6
          have hk7 := K7k.out
          have p0 := (blk_cell hk7 0).trans rfl
          have p1 := (blk_cell hk7 1).trans rfl
          have p2 := (blk_cell hk7 2).trans rfl
          have p3 := (blk_cell hk7 3).trans rfl
          have p4 := (blk_cell hk7 4).trans rfl
          have y3 := blk_frozen hk7 3
          have y4 := blk_frozen hk7 4
          have hlt := blk_lt hk4
          have n47 := HN47.out
          have n74 : b7 ≠ b4 := fun e => n47 e.symm
          clear hk4 hk7
          go_wp2_with fail
          have hge : w.heap.size ≤ b4 := by have := HB4.out; omega
          have hge0 : w0.heap.size ≤ b4 := Nat.le_trans HI00.out hge
          have hge7 : w.heap.size ≤ b7 := HW7.out
          have hge70 : w0.heap.size ≤ b7 := Nat.le_trans HI00.out hge7
          refine bodyPost_ret (v := .agg #[.int .i64 1, .int .i64 op, .int .i64 n, .bool false, .int .i64 0, .string tx, .slice none 0 0]) (by simp [results, Tryd.results56, go_sem, hlt, q0, q1, q2, q3, q4, q5, q6]) rfl ⟨?_, ?_⟩
          · rw [HA3.out]
          · rw [HA3.out]
            iterate 7 refine RdStep.far ?_ HN4.out hge hge0 _
            refine RdStep.far ?_ HN7.out hge7 hge70 _
            exact HI10.out
      · have hcut := fun W => strings_CutPrefix.calls wd2 ⟨#[39]⟩ wd2 false W (by rw [cut_quote, if_neg hq])
        have HA3 : Aside0 (res = (⟨op, n, ⟨false, (numF wd2).1, ⟨#[]⟩⟩⟩, l2, b2 || !(numF wd2).2)) := ⟨by rw [HA2.out]; exact if_neg hq⟩
        clear hq HA2
        go_wp2_with fail
        refine (hcut w8).mono ?_
        rintro e w9 ⟨rfl, ⟨m9, rfl⟩⟩
        have HI9 : Aside0 (RdStep w0 w (w8.drewN m9) g l2 b2) := ⟨HI8.out.below (pw_below_drewN (Below.refl _ _) m9)⟩
        have K4j : Aside0 ((w8.drewN m9).heap[b4]? = _) := ⟨K4i.out⟩
        have K7j : Aside0 ((w8.drewN m9).heap[b7]? = _) := ⟨K7i.out⟩
        generalize w8.drewN m9 = w9 at HI9 K4j K7j ⊢
        clear HI8 K4i K7i hcut
        go_wp2_with fail
        refine (number.calls w0 w9 g l2 _ wd2 HI9.out.1 HI9.out.2.1 HG.out HWD.out).mono ?_
        rintro e w10 ⟨rfl, hS⟩
        have HI10 := Aside0.mk (HI9.out.then hS)
        have K4k := Aside0.mk (hS.blk K4j.out HN4.out)
        have K7k := Aside0.mk (hS.blk K7j.out HN7.out)
        clear hS HI9 K4j K7j
        generalize (numF wd2).1 = nn at HA3 ⊢
        have hk4 := K4k.out
        have q0 := (blk_cell hk4 0).trans rfl
        have q1 := (blk_cell hk4 1).trans rfl
        have q2 := (blk_cell hk4 2).trans rfl
        have q3 := (blk_cell hk4 3).trans rfl
        have q4 := (blk_cell hk4 4).trans rfl
        have q5 := (blk_cell hk4 5).trans rfl
        have q6 := (blk_cell hk4 6).trans rfl
        have z0 := blk_frozen hk4 0
        have z1 := blk_frozen hk4 1
        have z2 := blk_frozen hk4 2
        have z3 := blk_frozen hk4 3
        have z4 := blk_frozen hk4 4
        have z5 := blk_frozen hk4 5
        have z6 := blk_frozen hk4 6
        have hk7 := K7k.out
        have p0 := (blk_cell hk7 0).trans rfl
        have p1 := (blk_cell hk7 1).trans rfl
        have p2 := (blk_cell hk7 2).trans rfl
        have p3 := (blk_cell hk7 3).trans rfl
        have p4 := (blk_cell hk7 4).trans rfl
        have y3 := blk_frozen hk7 3
        have y4 := blk_frozen hk7 4
        have hlt := blk_lt hk4
        have n47 := HN47.out
        have n74 : b7 ≠ b4 := fun e => n47 e.symm
        clear hk4 hk7
        go_wp2_with fail
        have hge : w.heap.size ≤ b4 := by have := HB4.out; omega
        have hge0 : w0.heap.size ≤ b4 := Nat.le_trans HI00.out hge
        have hge7 : w.heap.size ≤ b7 := HW7.out
        have hge70 : w0.heap.size ≤ b7 := Nat.le_trans HI00.out hge7
        refine bodyPost_ret (v := .agg #[.int .i64 1, .int .i64 op, .int .i64 n, .bool false, .int .i64 nn, .string ⟨#[]⟩, .slice none 0 0]) (by simp [results, Tryd.results56, go_sem, hlt, q0, q1, q2, q3, q4, q5, q6]) rfl ⟨?_, ?_⟩
        · rw [HA3.out]
        · rw [HA3.out]
          iterate 7 refine RdStep.far ?_ HN4.out hge hge0 _
          refine RdStep.far ?_ HN7.out hge7 hge70 _
          exact HI10.out
    · go_wp2_with fail
      refine (must.calls w0 w6 g l1 _ _ HI6.out.1 HI6.out.2.1).mono ?_
      rintro e w7 ⟨rfl, hS⟩
      have HI7 := Aside0.mk (HI6.out.then hS)
      have K4g := Aside0.mk (hS.blk K4f.out HN4.out)
      clear hS HI6 K4f
      have hk4 := K4g.out
      have q0 := (blk_cell hk4 0).trans rfl
      have q1 := (blk_cell hk4 1).trans rfl
      have q2 := (blk_cell hk4 2).trans rfl
      have q3 := (blk_cell hk4 3).trans rfl
      have q4 := (blk_cell hk4 4).trans rfl
      have q5 := (blk_cell hk4 5).trans rfl
      have q6 := (blk_cell hk4 6).trans rfl
      have z0 := blk_frozen hk4 0
      have z1 := blk_frozen hk4 1
      have z2 := blk_frozen hk4 2
      have z3 := blk_frozen hk4 3
      have z4 := blk_frozen hk4 4
      have z5 := blk_frozen hk4 5
      have z6 := blk_frozen hk4 6
      have hlt := blk_lt K4g.out
      clear hk4
      go_wp2_with fail
      have hge : w.heap.size ≤ b4 := by have := HB4.out; omega
      have hge0 : w0.heap.size ≤ b4 := Nat.le_trans HI00.out hge
      refine bodyPost_ret (v := .agg #[.int .i64 1, .int .i64 op, .int .i64 n, .bool false, .int .i64 0, .string ⟨#[]⟩, .slice none 0 0]) (by simp [results, Tryd.results56, go_sem, hlt, q0, q1, q2, q3, q4, q5, q6]) rfl ⟨?_, ?_⟩
      · rw [HA.out, if_neg (by simp at o2; omega)]
      · rw [HA.out, if_neg (by simp at o2; omega)]
        show RdStep w0 w _ g l1 (b1 || !(decide (0 < op)))
        rw [decide_eq_true o1]
        refine RdStep.below ?_ (below_alloc (Below.refl _ _) _)
        iterate 7 refine RdStep.far ?_ HN4.out hge hge0 _
        exact HI7.out
end Go.Proofs.YtglcajijmkianaaDoor.A
