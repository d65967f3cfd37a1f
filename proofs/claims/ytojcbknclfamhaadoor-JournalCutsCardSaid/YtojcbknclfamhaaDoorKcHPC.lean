/- The same deeds are the same; bytes of segments; where a cut lies: plain. · JournalCuts' law is true of every schema, all deeds, every cut: plain. -/
import Derived.Test.YtojcbknclfamhaaDoorKcAx0
import Derived.Test.YtojcbknclfamhaaDoorKcAx17
import Derived.Test.YtojcbknclfamhaaDoorKcHPTorn2
import Derived.Test.YtojcbknclfamhaaDoorKcAx20
import Derived.Test.YtojcbknclfamhaaDoorKcHLivesT
import Derived.Test.YtojcbknclfamhaaDoorKcHSkD
namespace Go.Proofs.YtojcbknclfamhaaDoor.A
open Go.RowKit Go.Proofs.YtojcbknclfamhaaDoorW.PrintWords Go.Proofs.YtojcbknclfamhaaDoorW.PrintLast Go.Proofs.YtojcbknclfamhaaDoorW.PrintMore
set_option linter.unusedVariables false
set_option linter.unusedSimpArgs false
theorem same_l (r : List S45) (h : r.length ≤ 1000) : ∀ d i k, i + d = r.length → d < k → tithebarnref02_Same.l0 k r r (i : Int) = some true := by
  intro d
  induction d with
  | zero =>
    intro i k hi hk
    obtain ⟨k, rfl⟩ : ∃ m, k = m + 1 := ⟨k - 1, by omega⟩
    rw [tithebarnref02_Same.l0, if_neg (by omega)]
  | succ d ih =>
    intro i k hi hk
    obtain ⟨k, rfl⟩ : ∃ m, k = m + 1 := ⟨k - 1, by omega⟩
    rw [tithebarnref02_Same.l0, if_pos (by omega), if_pos (by omega), if_pos (by omega), wrap_s i (by omega), ih (i + 1) k (by omega) (by omega)]
    simp
theorem sameAll_l (a : List S36) (h6 : ∀ d ∈ a, d.f1.length ≤ 6) (h : a.length ≤ 1000000) : ∀ d i k, i + d = a.length → d + 10 < k → tithebarnref07_SameAll.l0 k a a (i : Int) = some true := by
  intro d
  induction d with
  | zero =>
    intro i k hi hk
    obtain ⟨k, rfl⟩ : ∃ m, k = m + 1 := ⟨k - 1, by omega⟩
    rw [tithebarnref07_SameAll.l0, if_neg (by omega)]
  | succ d ih =>
    intro i k hi hk
    obtain ⟨k, rfl⟩ : ∃ m, k = m + 1 := ⟨k - 1, by omega⟩
    have hia : i < a.length := by omega
    have hrd : rd_T36 a (i : Int) = a[i] := by simp [rd_T36, hia]
    have h6i := h6 a[i] (List.getElem_mem hia)
    rw [tithebarnref07_SameAll.l0, if_pos (by omega), if_pos (by omega), if_pos (by omega), wrap_s i (by omega), hrd]
    unfold tithebarnref07_Same.f tithebarnref02_Same.f
    have hs := same_l a[i].f1 (by omega) a[i].f1.length 0 k (by omega) (by omega)
    rw [show ((0 : Nat) : Int) = 0 from rfl] at hs
    rw [if_pos (by simp), if_pos rfl, hs]
    simp only [Option.bind_some]
    rw [if_pos trivial]
    exact ih (i + 1) k (by omega) (by omega)
theorem sameAll_f (k : Nat) (a : List S36) (h6 : ∀ d ∈ a, d.f1.length ≤ 6) (h : a.length ≤ 1000000) (hk : a.length + 10 < k) : tithebarnref07_SameAll.f k a a = some true := by
  unfold tithebarnref07_SameAll.f
  rw [if_pos rfl]
  exact sameAll_l a h6 h a.length 0 k (by omega) hk
theorem segB_length (l : List S50) : ∀ (ds : List S36), (∀ d ∈ ds, DeedOk l d) → (segB l ds).length ≤ 460 * ds.length
  | [], _ => by simp [segB]
  | d :: ds, h => by
    have h1 := segB_length l ds (fun x hx => h x (List.mem_cons_of_mem _ hx))
    have h2 := deedT_size l d (h d (List.mem_cons_self ..))
    rw [segB_cons, List.length_append, frameB_length, List.length_cons]
    omega
theorem cut_range (a2 : Int) (S : Nat) (hS : S ≤ 1000000) : ¬ IntKind.u64.wrap (wrap64 ((S : Int) + 1)) = 0 ∧ 0 ≤ wrap64 (Int.tmod (IntKind.u64.wrap a2) (IntKind.u64.wrap (wrap64 ((S : Int) + 1)))) ∧ wrap64 (Int.tmod (IntKind.u64.wrap a2) (IntKind.u64.wrap (wrap64 ((S : Int) + 1)))) ≤ (S : Int) := by
  have e1 : IntKind.u64.wrap (wrap64 ((S : Int) + 1)) = (S : Int) + 1 := by
    rw [IntWalk.wrap64_in _ (by omega)]
    exact IntWalk.u64_in _ (by omega)
  rw [e1]
  have h0 : 0 ≤ IntKind.u64.wrap a2 := by rw [IntKind.wrap_u64]; omega
  have h1 := Int.tmod_nonneg ((S : Int) + 1) h0
  have h2 := Int.tmod_lt_of_pos (IntKind.u64.wrap a2) (show 0 < (S : Int) + 1 by omega)
  generalize Int.tmod (IntKind.u64.wrap a2) ((S : Int) + 1) = m at *
  rw [IntWalk.wrap64_in m (by omega)]
  omega
end Go.Proofs.YtojcbknclfamhaaDoor.A
namespace Go.Proofs.YtojcbknclfamhaaDoor.A
open Go.RowKit Go.Proofs.YtojcbknclfamhaaDoorW.PrintWords Go.Proofs.YtojcbknclfamhaaDoorW.PrintLast Go.Proofs.YtojcbknclfamhaaDoorW.PrintMore
set_option linter.unusedVariables false
set_option linter.unusedSimpArgs false
theorem putL_len : ∀ (l : List S36) (d : S36), (putL l d).length ≤ l.length + 1
  | [], d => by simp [putL]
  | x :: xs, d => by
    unfold putL
    have := putL_len xs d
    split
    · simp only [List.length_cons]; omega
    · split <;> simp
theorem putAll_ok : ∀ (l ds : List S36), (∀ d ∈ l, 0 < d.f1.length ∧ d.f1.length ≤ 6) → ∃ D, putAll ds l = some D ∧ D.length ≤ ds.length + l.length ∧ ∀ x ∈ D, x ∈ ds ∨ x ∈ l
  | [], ds, _ => ⟨ds, rfl, by simp, fun x hx => .inl hx⟩
  | d :: l, ds, h => by
    obtain ⟨h1, h2⟩ := h d (List.mem_cons_self ..)
    obtain ⟨D, e1, e2, e3⟩ := putAll_ok l (putL ds d) (fun x hx => h x (List.mem_cons_of_mem _ hx))
    refine ⟨D, ?_, ?_, fun x hx => ?_⟩
    · rw [putAll, if_pos ⟨h1, by omega⟩, e1]
    · have := putL_len ds d
      rw [List.length_cons]; omega
    · rcases e3 x hx with h | h
      · rcases putL_mem _ _ _ h with h | h
        · exact .inr (by rw [h]; exact List.mem_cons_self ..)
        · exact .inl h
      · exact .inr (List.mem_cons_of_mem _ h)
theorem putAll_append : ∀ (a ds b : List S36), putAll ds (a ++ b) = (putAll ds a).bind fun e => putAll e b
  | [], ds, b => rfl
  | d :: a, ds, b => by
    rw [List.cons_append, putAll, putAll]
    split
    · exact putAll_append a (putL ds d) b
    · rfl
theorem deed_len0 {l : List S50} {d : S36} (h : DeedOk l d) : 0 < d.f1.length := by
  have := right_len h.1
  rw [h.2.1]; split <;> omega
theorem whole_all (l : List S50) : ∀ (ds : List S36), whole l ds (segB l ds).length = ds.length
  | [] => rfl
  | d :: ds => by
    rw [whole, segB_cons, List.length_append, if_pos (by omega), Nat.add_sub_cancel_left, whole_all l ds, List.length_cons]
theorem jread_seg (k : Nat) (l : List S50) (ds : List S36) (s : ByteArray) (hr : rightC l = true) (hok : ∀ d ∈ ds, DeedOk l d) (hl : ds.length ≤ 1000000) (hk : ds.length < k) (hs : s.size ≤ 1000000000) (h : bytesOf s = segB l ds) : journal_Read.f k l s = some (ds, 0) := by
  have := jread_f k l ds s (segB l ds).length hr hok hl hk hs (by rw [List.take_length]; exact h)
  rw [whole_all, List.take_length] at this
  exact this
theorem bytesOf_append (a b : ByteArray) : bytesOf (a ++ b) = bytesOf a ++ bytesOf b := by
  unfold bytesOf
  rw [ByteArray.data_append, Array.toList_append, List.map_append]
theorem segB_append (l : List S50) (a b : List S36) : segB l (a ++ b) = segB l a ++ segB l b := by simp [segB]
theorem cuts_end (k : Nat) (l : List S50) (p q : List S36) (a b : ByteArray) (hok : ∀ d ∈ p ++ q, DeedOk l d) (hn : (p ++ q).length ≤ 300) (ha : bytesOf a = segB l p) (hb : bytesOf b = segB l q) (hk : 1000 < k) :
    ∃ D e, journal_Replay.f k l [a ++ b] = some (D, e) ∧ journal_Replay.f k l [a, b] = some (D, e) ∧ D.length ≤ 300 ∧ ∀ d ∈ D, d.f1.length ≤ 6 := by
  have hp : ∀ d ∈ p, DeedOk l d := fun d hd => hok d (List.mem_append_left _ hd)
  have hq : ∀ d ∈ q, DeedOk l d := fun d hd => hok d (List.mem_append_right _ hd)
  rw [List.length_append] at hn
  have s1 := segB_length l p hp
  have s2 := segB_length l q hq
  have z1 : a.size ≤ 140000 := by rw [← bytesOf_length, ha]; omega
  have z2 : b.size ≤ 140000 := by rw [← bytesOf_length, hb]; omega
  have hab : bytesOf (a ++ b) = segB l (p ++ q) := by rw [bytesOf_append, ha, hb, segB_append]
  have z3 : (a ++ b).size ≤ 1000000000 := by rw [ByteArray.size_append]; omega
  unfold journal_Replay.f
  rw [if_pos (by simp), if_pos (by simp)]
  by_cases hr : rightC l = true
  · have r1 := jread_seg k l (p ++ q) (a ++ b) hr hok (by rw [List.length_append]; omega) (by rw [List.length_append]; omega) z3 hab
    have r2 := jread_seg k l p a hr hp (by omega) (by omega) (by omega) ha
    have r3 := jread_seg k l q b hr hq (by omega) (by omega) (by omega) hb
    obtain ⟨D1, e1, l1, m1⟩ := putAll_ok p [] (fun d hd => ⟨deed_len0 (hp d hd), deed_len (hp d hd)⟩)
    obtain ⟨D, e2, l2, m2⟩ := putAll_ok q D1 (fun d hd => ⟨deed_len0 (hq d hd), deed_len (hq d hd)⟩)
    have hpq : putAll [] (p ++ q) = some D := by rw [putAll_append, e1]; exact e2
    simp only [List.length_nil] at l1
    refine ⟨D, 0, ?_, ?_, by omega, fun d hd => ?_⟩
    · simp only [replayGo, r1, hpq, Option.bind_some, if_true]
      rw [if_pos (by omega)]
    · simp only [replayGo, r2, r3, e1, e2, Option.bind_some, if_true]
      rw [if_pos (by omega)]
    · rcases m2 d hd with h | h
      · rcases m1 d h with h | h
        · cases h
        · exact deed_len (hp d h)
      · exact deed_len (hq d h)
  · have r1 := jread_no k l (a ++ b) hr
    have r2 := jread_no k l a hr
    refine ⟨[], 4, ?_, ?_, by simp, fun d hd => by cases hd⟩
    · simp only [replayGo, r1, Option.bind_some]
      rw [if_neg (by decide)]
    · simp only [replayGo, r2, Option.bind_some]
      rw [if_neg (by decide)]
theorem cuts_l (l : List S50) (x1 : List S36) (K : Nat) (hn : x1.length ≤ 300) (h64 : ∀ d ∈ x1, ∀ v ∈ d.f1, In64 v) : ∀ e i k (a b : ByteArray), i + e = x1.length → e + 1010 < k → (∀ d ∈ x1.take i, DeedOk l d) → bytesOf a = segB l ((x1.take i).take K) → bytesOf b = segB l ((x1.take i).drop K) →
    tithebarnlaw15_JournalCuts.l0 k l x1 (K : Int) a b (i : Int) = some true := by
  intro e
  induction e with
  | zero =>
    intro i k a b hi hk hok ha hb
    obtain ⟨k, rfl⟩ : ∃ m, k = m + 1 := ⟨k - 1, by omega⟩
    have htk := List.take_append_drop K (x1.take i)
    have hl : (x1.take i).length ≤ 300 := by rw [List.length_take]; omega
    obtain ⟨D, er, h1, h2, h3, h4⟩ := cuts_end k l ((x1.take i).take K) ((x1.take i).drop K) a b (by rw [htk]; exact hok) (by rw [htk]; exact hl) ha hb (by omega)
    have s1 := segB_length l ((x1.take i).take K) (fun d hd => hok d (List.mem_of_mem_take hd))
    have s2 := segB_length l ((x1.take i).drop K) (fun d hd => hok d (List.mem_of_mem_drop hd))
    have za : a.size ≤ 140000 := by rw [← bytesOf_length, ha]; have : ((x1.take i).take K).length ≤ 300 := by { rw [List.length_take]; omega }; omega
    have zb : b.size ≤ 140000 := by rw [← bytesOf_length, hb]; have : ((x1.take i).drop K).length ≤ 300 := by { rw [List.length_drop]; omega }; omega
    rw [tithebarnlaw15_JournalCuts.l0, if_neg (by omega), if_pos (by omega), h1, h2]
    simp only [Option.bind_some, if_true]
    rw [sameAll_f k D h4 (by omega) (by omega)]
    rfl
  | succ e ih =>
    intro i k a b hi hk hok ha hb
    obtain ⟨k, rfl⟩ : ∃ m, k = m + 1 := ⟨k - 1, by omega⟩
    have hil : i < x1.length := by omega
    have hln : (x1.take i).length = i := by rw [List.length_take]; omega
    have hrd : rd_T36 x1 (i : Int) = x1[i] := by simp [rd_T36, hil]
    rw [tithebarnlaw15_JournalCuts.l0, if_pos (by omega), if_pos (by omega), hrd, wrap_s i (by omega)]
    obtain ⟨t, er, hw, hw2⟩ := dwrite_f k l x1[i].f0 x1[i].f1 (by omega) (h64 _ (List.getElem_mem hil))
    unfold journal_Write.f
    rw [hw]
    simp only [Option.bind_some]
    by_cases h0 : er = 0
    · obtain ⟨hd, ht⟩ := hw2 h0
      change DeedOk l x1[i] at hd
      change t = deedT l x1[i] at ht
      have hts := deedT_size l x1[i] hd
      rw [if_pos h0, fwrite_f k t (by omega) (by rw [ht]; omega)]
      simp only [Option.bind_some]
      have s1 := segB_length l ((x1.take i).take K) (fun d hd => hok d (List.mem_of_mem_take hd))
      have s2 := segB_length l ((x1.take i).drop K) (fun d hd => hok d (List.mem_of_mem_drop hd))
      have za : a.size ≤ 140000 := by rw [← bytesOf_length, ha]; have : ((x1.take i).take K).length ≤ 300 := by { rw [List.length_take]; omega }; omega
      have zb : b.size ≤ 140000 := by rw [← bytesOf_length, hb]; have : ((x1.take i).drop K).length ≤ 300 := by { rw [List.length_drop]; omega }; omega
      have hfs : (strOfNums (frameB t)).size = t.size + 8 := by rw [strOfNums_size, frameB_length]
      have htk : x1.take (i + 1) = x1.take i ++ [x1[i]] := by rw [List.take_add_one, List.getElem?_eq_getElem hil]; rfl
      have hok' : ∀ d ∈ x1.take (i + 1), DeedOk l d := by
        intro d hdm
        rw [htk, List.mem_append] at hdm
        rcases hdm with hdm | hdm
        · exact hok d hdm
        · simp at hdm; rw [hdm]; exact hd
      have hfb : bytesOf (strOfNums (frameB t)) = segB l [x1[i]] := by rw [IsB.back (frameB_isB t), ht]; simp [segB]
      rw [if_pos trivial]
      by_cases hiK : i < K
      · rw [if_pos (by omega), if_pos (by rw [hfs, ht]; omega)]
        refine ih (i + 1) k _ b (by omega) (by omega) hok' ?_ ?_
        · have q1 : (x1.take i).take K = x1.take i := List.take_of_length_le (by omega)
          have q2 : (x1.take i ++ [x1[i]]).take K = x1.take i ++ [x1[i]] := List.take_of_length_le (by rw [List.length_append, hln, List.length_singleton]; omega)
          rw [bytesOf_append, ha, hfb, htk, q1, q2, segB_append]
        · have q1 : (x1.take i).drop K = [] := List.drop_of_length_le (by omega)
          have q2 : (x1.take i ++ [x1[i]]).drop K = [] := List.drop_of_length_le (by rw [List.length_append, hln, List.length_singleton]; omega)
          rw [hb, htk, q1, q2]
      · rw [if_neg (by omega), if_pos (by rw [hfs, ht]; omega)]
        refine ih (i + 1) k a _ (by omega) (by omega) hok' ?_ ?_
        · rw [ha, htk, List.take_append_of_le_length (by omega)]
        · rw [bytesOf_append, hb, hfb, htk, List.drop_append_of_le_length (by omega), segB_append]
    · rw [if_neg h0]
      exact if_neg h0
theorem cuts_gen (k : Nat) (hk : 2000 < k) (hl : tithebarnlaw15_lives.f k = some true) (l : List S50) (x1 : List S36) (a2 : Int) (h64 : ∀ d ∈ x1, ∀ v ∈ d.f1, In64 v) : tithebarnlaw15_JournalCuts.f k l x1 a2 = some true := by
  unfold tithebarnlaw15_JournalCuts.f
  rw [hl]
  have hmn : mn (x1.length : Int) 300 = ((min x1.length 300 : Nat) : Int) := by unfold mn; split <;> omega
  rw [Option.bind_some, if_pos rfl, hmn, if_pos (by omega), if_pos (by omega), Int.toNat_natCast, Option.bind_some]
  have hyl : (x1.take (min x1.length 300)).length = min x1.length 300 := by rw [List.length_take]; omega
  obtain ⟨q1, q2, q3⟩ := cut_range a2 (x1.take (min x1.length 300)).length (by omega)
  rw [if_neg q1]
  generalize wrap64 (Int.tmod (IntKind.u64.wrap a2) (IntKind.u64.wrap (wrap64 (((x1.take (min x1.length 300)).length : Int) + 1)))) = m at *
  obtain ⟨K, rfl⟩ : ∃ K : Nat, m = (K : Int) := ⟨m.toNat, by omega⟩
  have h := cuts_l l (x1.take (min x1.length 300)) K (by omega) (fun d hd => h64 d (List.mem_of_mem_take hd)) (x1.take (min x1.length 300)).length 0 k ⟨#[]⟩ ⟨#[]⟩ (by omega) (by omega) (fun d hd => by simp at hd) (by rw [List.take_zero, List.take_nil]; rfl) (by rw [List.take_zero, List.drop_nil]; rfl)
  rw [show ((0 : Nat) : Int) = 0 from rfl] at h
  exact h
theorem cuts_true (l : List S50) (x1 : List S36) (a2 : Int) (h64 : ∀ d ∈ x1, ∀ v ∈ d.f1, In64 v) : tithebarnlaw15_JournalCuts.f 3000 l x1 a2 = some true := cuts_gen 3000 (by omega) lives_T l x1 a2 h64
end Go.Proofs.YtojcbknclfamhaaDoor.A
