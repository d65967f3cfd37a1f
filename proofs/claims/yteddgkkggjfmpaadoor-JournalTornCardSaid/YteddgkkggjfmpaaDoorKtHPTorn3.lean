/- JournalTorn's law is true of every schema, every deeds, every cut: plain. -/
import Derived.Test.YteddgkkggjfmpaaDoorKtAx0
import Derived.Test.YteddgkkggjfmpaaDoorKtAx18
import Derived.Test.YteddgkkggjfmpaaDoorKtHPTorn2
import Derived.Test.YteddgkkggjfmpaaDoorKtHLivesT
namespace Go.Proofs.YteddgkkggjfmpaaDoor.A
open Go.RowKit Go.Proofs.YteddgkkggjfmpaaDoorW.PrintWords Go.Proofs.YteddgkkggjfmpaaDoorW.PrintLast Go.Proofs.YteddgkkggjfmpaaDoorW.PrintMore
set_option linter.unusedVariables false
set_option linter.unusedSimpArgs false
theorem same_l (r : List S45) (h : r.length ≤ 1000) : ∀ d i k, i + d = r.length → d < k → tithebarnref02_Same.l0 k r r (i : Int) = some true := by
  intro d
  induction d with
  | zero =>
    intro i k hi hk
    obtain ⟨k, rfl⟩ : ∃ m, k = m + 1 := ⟨k - 1, by omega⟩
    rw [tithebarnref02_Same.l0, if_neg (by omega)]
  | succ d ih =>
    intro i k hi hk
    obtain ⟨k, rfl⟩ : ∃ m, k = m + 1 := ⟨k - 1, by omega⟩
    rw [tithebarnref02_Same.l0, if_pos (by omega), if_pos (by omega), if_pos (by omega), wrap_s i (by omega), ih (i + 1) k (by omega) (by omega)]
    simp
theorem sameAll_l (a : List S36) (h6 : ∀ d ∈ a, d.f1.length ≤ 6) (h : a.length ≤ 1000000) : ∀ d i k, i + d = a.length → d + 10 < k → tithebarnref07_SameAll.l0 k a a (i : Int) = some true := by
  intro d
  induction d with
  | zero =>
    intro i k hi hk
    obtain ⟨k, rfl⟩ : ∃ m, k = m + 1 := ⟨k - 1, by omega⟩
    rw [tithebarnref07_SameAll.l0, if_neg (by omega)]
  | succ d ih =>
    intro i k hi hk
    obtain ⟨k, rfl⟩ : ∃ m, k = m + 1 := ⟨k - 1, by omega⟩
    have hia : i < a.length := by omega
    have hrd : rd_T36 a (i : Int) = a[i] := by simp [rd_T36, hia]
    have h6i := h6 a[i] (List.getElem_mem hia)
    rw [tithebarnref07_SameAll.l0, if_pos (by omega), if_pos (by omega), if_pos (by omega), wrap_s i (by omega), hrd]
    unfold tithebarnref07_Same.f tithebarnref02_Same.f
    have hs := same_l a[i].f1 (by omega) a[i].f1.length 0 k (by omega) (by omega)
    rw [show ((0 : Nat) : Int) = 0 from rfl] at hs
    rw [if_pos (by simp), if_pos rfl, hs]
    simp only [Option.bind_some]
    rw [if_pos trivial]
    exact ih (i + 1) k (by omega) (by omega)
theorem sameAll_f (k : Nat) (a : List S36) (h6 : ∀ d ∈ a, d.f1.length ≤ 6) (h : a.length ≤ 1000000) (hk : a.length + 10 < k) : tithebarnref07_SameAll.f k a a = some true := by
  unfold tithebarnref07_SameAll.f
  rw [if_pos rfl]
  exact sameAll_l a h6 h a.length 0 k (by omega) hk
def endsOf (l : List S50) (ds : List S36) : List Int := (List.range ds.length).map fun i => ((segB l (ds.take (i + 1))).length : Int)
theorem endsOf_length (l : List S50) (ds : List S36) : (endsOf l ds).length = ds.length := by simp [endsOf]
theorem endsOf_at (l : List S50) (ds : List S36) (n : Nat) (h : n < ds.length) : rd (endsOf l ds) (n : Int) = ((segB l (ds.take (n + 1))).length : Int) := by
  simp [rd, endsOf, h]
theorem segB_snoc (l : List S50) (ds : List S36) (d : S36) : segB l (ds ++ [d]) = segB l ds ++ frameB (deedT l d) := by
  simp [segB]
theorem endsOf_snoc (l : List S50) (ds : List S36) (d : S36) : endsOf l (ds ++ [d]) = endsOf l ds ++ [((segB l (ds ++ [d])).length : Int)] := by
  unfold endsOf
  rw [List.length_append, List.length_singleton, List.range_succ, List.map_append, List.map_singleton]
  congr 1
  · apply List.map_congr_left
    intro i hi
    rw [List.mem_range] at hi
    rw [List.take_append_of_le_length (by omega)]
  · rw [List.take_of_length_le (by simp)]
theorem l1_f (l : List S50) (x1 ds : List S36) (i j : Nat) (hds : ds = x1.take i) (hi : i ≤ x1.length) (h0 : 0 < i) (hi3 : i ≤ 300) (hok : ∀ d ∈ ds, DeedOk l d) : ∀ e n k, n + e = whole l ds j → e + 400 < k →
    tithebarnlaw15_JournalTorn.l1 k x1 (endsOf l ds) (j : Int) (ds.take (whole l ds j)) 0 (n : Int) = some true := by
  have hdl : ds.length = i := by rw [hds, List.length_take]; omega
  have hw := whole_le l ds j
  have hfin : ∀ k, 390 < k → ∀ n, n = whole l ds j → tithebarnref07_SameAll.f k (ds.take (whole l ds j)) (x1.take (n : Int).toNat) = some true := by
    intro k hk n hn
    rw [Int.toNat_natCast, hn]
    have e : ds.take (whole l ds j) = x1.take (whole l ds j) := by rw [hds, List.take_take, Nat.min_eq_left (by rw [← hds]; omega)]
    rw [e]
    refine sameAll_f k _ (fun d hd => ?_) (by rw [List.length_take]; omega) (by rw [List.length_take]; omega)
    rw [← e] at hd
    exact deed_len (hok d (List.mem_of_mem_take hd))
  intro e
  induction e with
  | zero =>
    intro n k hn hk
    obtain ⟨k, rfl⟩ : ∃ m, k = m + 1 := ⟨k - 1, by omega⟩
    rw [tithebarnlaw15_JournalTorn.l1, endsOf_length]
    by_cases hnl : n < ds.length
    · have hi2 := whole_iff l ds j n hnl
      rw [if_pos (by omega), if_pos (by omega), endsOf_at l ds n hnl, if_neg (by omega), if_neg (by omega), if_pos rfl, if_pos (by omega), hfin k (by omega) n (by omega)]
      rfl
    · rw [if_neg (by omega), if_neg (by omega), if_pos rfl, if_pos (by omega), if_pos (by omega), hfin k (by omega) n (by omega)]
      rfl
  | succ e ih =>
    intro n k hn hk
    obtain ⟨k, rfl⟩ : ∃ m, k = m + 1 := ⟨k - 1, by omega⟩
    have hnl : n < ds.length := by omega
    have hi2 := whole_iff l ds j n hnl
    rw [tithebarnlaw15_JournalTorn.l1, endsOf_length, if_pos (by omega), if_pos (by omega), endsOf_at l ds n hnl, if_pos (by omega), wrap_s n (by omega)]
    exact ih (n + 1) k (by omega) (by omega)
theorem segB_length (l : List S50) : ∀ (ds : List S36), (∀ d ∈ ds, DeedOk l d) → (segB l ds).length ≤ 460 * ds.length
  | [], _ => by simp [segB]
  | d :: ds, h => by
    have h1 := segB_length l ds (fun x hx => h x (List.mem_cons_of_mem _ hx))
    have h2 := deedT_size l d (h d (List.mem_cons_self ..))
    rw [segB_cons, List.length_append, frameB_length, List.length_cons]
    omega
theorem cut_range (a2 : Int) (S : Nat) (hS : S ≤ 1000000) : ¬ IntKind.u64.wrap (wrap64 ((S : Int) + 1)) = 0 ∧ 0 ≤ wrap64 (Int.tmod (IntKind.u64.wrap a2) (IntKind.u64.wrap (wrap64 ((S : Int) + 1)))) ∧ wrap64 (Int.tmod (IntKind.u64.wrap a2) (IntKind.u64.wrap (wrap64 ((S : Int) + 1)))) ≤ (S : Int) := by
  have e1 : IntKind.u64.wrap (wrap64 ((S : Int) + 1)) = (S : Int) + 1 := by
    rw [IntWalk.wrap64_in _ (by omega)]
    exact IntWalk.u64_in _ (by omega)
  rw [e1]
  have h0 : 0 ≤ IntKind.u64.wrap a2 := by rw [IntKind.wrap_u64]; omega
  have h1 := Int.tmod_nonneg ((S : Int) + 1) h0
  have h2 := Int.tmod_lt_of_pos (IntKind.u64.wrap a2) (show 0 < (S : Int) + 1 by omega)
  generalize Int.tmod (IntKind.u64.wrap a2) ((S : Int) + 1) = m at *
  rw [IntWalk.wrap64_in m (by omega)]
  omega
theorem end_f (l : List S50) (x1 : List S36) (a2 : Int) (x7 : ByteArray) (i : Nat) (hi : i ≤ x1.length) (hi3 : i ≤ 300) (hok : ∀ d ∈ x1.take i, DeedOk l d) (hb : bytesOf x7 = segB l (x1.take i)) (k : Nat) (hk : 1000 < k) :
    tithebarnlaw15_JournalTorn.j1 k l x1 a2 x7 (endsOf l (x1.take i)) (i : Int) false = some true := by
  obtain ⟨k, rfl⟩ : ∃ m, k = m + 1 := ⟨k - 1, by omega⟩
  have hln : (x1.take i).length = i := by rw [List.length_take]; omega
  have hsl := segB_length l (x1.take i) hok
  have hsz : x7.size ≤ 1000000 := by rw [← bytesOf_length, hb]; omega
  obtain ⟨c1, c2, c3⟩ := cut_range a2 x7.size hsz
  rw [tithebarnlaw15_JournalTorn.j1, if_neg (by decide), if_neg c1, if_pos c2, if_pos c3]
  generalize wrap64 (Int.tmod (IntKind.u64.wrap a2) (IntKind.u64.wrap (wrap64 ((x7.size : Int) + 1)))) = m at *
  obtain ⟨j, rfl⟩ : ∃ j : Nat, m = (j : Int) := ⟨m.toNat, by omega⟩
  rw [Int.toNat_natCast]
  have hxb : bytesOf (x7.extract 0 j) = (segB l (x1.take i)).take j := by rw [bytesOf_take, hb]
  have hxs : (x7.extract 0 j).size ≤ 1000000000 := by rw [← bytesOf_length, hxb, List.length_take]; omega
  by_cases h0 : i = 0
  · subst h0
    have hnil : ∃ e, journal_Read.f k l (x7.extract 0 j) = some ([], e) := by
      by_cases hr : rightC l = true
      · have := jread_f k l [] (x7.extract 0 j) j hr (fun d hd => by cases hd) (by simp) (by simp; omega) hxs (by rw [hxb]; rfl)
        exact ⟨0, by rw [this]; rfl⟩
      · exact ⟨4, jread_no k l _ hr⟩
    obtain ⟨e, he⟩ := hnil
    rw [he]
    simp only [Option.bind_some]
    obtain ⟨k, rfl⟩ : ∃ m, k = m + 1 := ⟨k - 1, by omega⟩
    rw [tithebarnlaw15_JournalTorn.l1, endsOf_length, hln, if_neg (by decide), if_pos (by decide)]
    rfl
  · have hr : rightC l = true := by
      have : 0 < (x1.take i).length := by omega
      exact (hok _ (List.getElem_mem this)).1
    rw [jread_f k l (x1.take i) (x7.extract 0 j) j hr hok (by omega) (by omega) hxs hxb]
    simp only [Option.bind_some]
    have hw := whole_le l (x1.take i) j
    exact l1_f l x1 (x1.take i) i j rfl hi (by omega) hi3 hok (whole l (x1.take i) j) 0 k (by omega) (by omega)
theorem torn_l (l : List S50) (x1 : List S36) (a2 : Int) (h64 : ∀ d ∈ x1, ∀ v ∈ d.f1, In64 v) : ∀ e i k (x7 : ByteArray), i + e = min x1.length 300 → 2 * e + 1010 < k → (∀ d ∈ x1.take i, DeedOk l d) → bytesOf x7 = segB l (x1.take i) →
    tithebarnlaw15_JournalTorn.l0 k l x1 a2 x7 (endsOf l (x1.take i)) (i : Int) = some true := by
  intro e
  induction e with
  | zero =>
    intro i k x7 hi hk hok hb
    obtain ⟨k, rfl⟩ : ∃ m, k = m + 1 := ⟨k - 1, by omega⟩
    rw [tithebarnlaw15_JournalTorn.l0]
    by_cases hil : (i : Int) < (x1.length : Int)
    · rw [if_pos hil, decide_eq_false (by omega)]
      exact end_f l x1 a2 x7 i (by omega) (by omega) hok hb k (by omega)
    · rw [if_neg hil]
      exact end_f l x1 a2 x7 i (by omega) (by omega) hok hb k (by omega)
  | succ e ih =>
    intro i k x7 hi hk hok hb
    obtain ⟨k, rfl⟩ : ∃ m, k = m + 2 := ⟨k - 2, by omega⟩
    have hil : i < x1.length := by omega
    have hln : (x1.take i).length = i := by rw [List.length_take]; omega
    have hrd : rd_T36 x1 (i : Int) = x1[i] := by simp [rd_T36, hil]
    rw [tithebarnlaw15_JournalTorn.l0, if_pos (by omega), decide_eq_true (show (i : Int) < 300 by omega), tithebarnlaw15_JournalTorn.j1, if_pos rfl, if_pos (by omega), if_pos (by omega), hrd, wrap_s i (by omega), endsOf_length, hln]
    obtain ⟨t, er, hw, hw2⟩ := dwrite_f k l x1[i].f0 x1[i].f1 (by omega) (h64 _ (List.getElem_mem hil))
    unfold journal_Write.f
    rw [hw]
    simp only [Option.bind_some]
    by_cases h0 : er = 0
    · obtain ⟨hd, ht⟩ := hw2 h0
      change DeedOk l x1[i] at hd
      change t = deedT l x1[i] at ht
      have hts := deedT_size l x1[i] hd
      rw [if_pos h0, fwrite_f k t (by omega) (by rw [ht]; omega)]
      simp only [Option.bind_some]
      have hsl := segB_length l (x1.take i) hok
      have hsz : x7.size ≤ 1000000 := by rw [← bytesOf_length, hb]; omega
      have hfs : (strOfNums (frameB t)).size = t.size + 8 := by rw [strOfNums_size, frameB_length]
      have hok' : ∀ d ∈ x1.take (i + 1), DeedOk l d := by
        intro d hdm
        rw [List.take_add_one, List.getElem?_eq_getElem hil, List.mem_append] at hdm
        rcases hdm with hdm | hdm
        · exact hok d hdm
        · simp at hdm; rw [hdm]; exact hd
      have htk : x1.take (i + 1) = x1.take i ++ [x1[i]] := by rw [List.take_add_one, List.getElem?_eq_getElem hil]; rfl
      have hb' : bytesOf (x7 ++ strOfNums (frameB t)) = segB l (x1.take (i + 1)) := by
        have : bytesOf (x7 ++ strOfNums (frameB t)) = bytesOf x7 ++ bytesOf (strOfNums (frameB t)) := by
          unfold bytesOf
          rw [ByteArray.data_append, Array.toList_append, List.map_append]
        rw [this, IsB.back (frameB_isB t), hb, htk, segB_snoc, ht]
      have hen : endsOf l (x1.take i) ++ [((x7 ++ strOfNums (frameB t)).size : Int)] = endsOf l (x1.take (i + 1)) := by
        rw [htk, endsOf_snoc, ← htk, ← hb', bytesOf_length]
      rw [if_pos trivial, if_pos (by rw [hfs, ht]; omega), if_pos (by omega), hen]
      exact ih (i + 1) k _ (by omega) (by omega) hok' hb'
    · rw [if_neg h0]
      exact if_neg h0
theorem torn_true (l : List S50) (x1 : List S36) (a2 : Int) (h64 : ∀ d ∈ x1, ∀ v ∈ d.f1, In64 v) : tithebarnlaw15_JournalTorn.f 3000 l x1 a2 = some true := by
  unfold tithebarnlaw15_JournalTorn.f
  rw [lives_T]
  simp only [Option.bind_some]
  rw [if_pos trivial]
  exact torn_l l x1 a2 h64 (min x1.length 300) 0 3000 ⟨#[]⟩ (by omega) (by omega) (fun d hd => by simp at hd) rfl
end Go.Proofs.YteddgkkggjfmpaaDoor.A
