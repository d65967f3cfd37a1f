/- The same deeds are the same; bytes of segments; where a cut lies: plain. · JournalCuts' law is true of every schema, all deeds, every cut: plain. · Of each key the last deed stands in the list: plain. -/
import Derived.Test.YtojcbknclfamhaaDoorKlAx0
import Derived.Test.YtojcbknclfamhaaDoorKlAx17
import Derived.Test.YtojcbknclfamhaaDoorKlHPTorn2
import Derived.Test.YtojcbknclfamhaaDoorKlAx10
import Derived.Test.YtojcbknclfamhaaDoorKlAx14
import Derived.Test.YtojcbknclfamhaaDoorKlHSkD
import Derived.Test.YtojcbknclfamhaaDoorKlHLivesT
namespace Go.Proofs.YtojcbknclfamhaaDoor.A
open Go.RowKit Go.Proofs.YtojcbknclfamhaaDoorW.PrintWords Go.Proofs.YtojcbknclfamhaaDoorW.PrintLast Go.Proofs.YtojcbknclfamhaaDoorW.PrintMore
set_option linter.unusedVariables false
set_option linter.unusedSimpArgs false
theorem same_l (r : List S45) (h : r.length ≤ 1000) : ∀ d i k, i + d = r.length → d < k → tithebarnref02_Same.l0 k r r (i : Int) = some true := by
  intro d
  induction d with
  | zero =>
    intro i k hi hk
    obtain ⟨k, rfl⟩ : ∃ m, k = m + 1 := ⟨k - 1, by omega⟩
    rw [tithebarnref02_Same.l0, if_neg (by omega)]
  | succ d ih =>
    intro i k hi hk
    obtain ⟨k, rfl⟩ : ∃ m, k = m + 1 := ⟨k - 1, by omega⟩
    rw [tithebarnref02_Same.l0, if_pos (by omega), if_pos (by omega), if_pos (by omega), wrap_s i (by omega), ih (i + 1) k (by omega) (by omega)]
    simp
theorem segB_length (l : List S50) : ∀ (ds : List S36), (∀ d ∈ ds, DeedOk l d) → (segB l ds).length ≤ 460 * ds.length
  | [], _ => by simp [segB]
  | d :: ds, h => by
    have h1 := segB_length l ds (fun x hx => h x (List.mem_cons_of_mem _ hx))
    have h2 := deedT_size l d (h d (List.mem_cons_self ..))
    rw [segB_cons, List.length_append, frameB_length, List.length_cons]
    omega
end Go.Proofs.YtojcbknclfamhaaDoor.A
namespace Go.Proofs.YtojcbknclfamhaaDoor.A
open Go.RowKit Go.Proofs.YtojcbknclfamhaaDoorW.PrintWords Go.Proofs.YtojcbknclfamhaaDoorW.PrintLast Go.Proofs.YtojcbknclfamhaaDoorW.PrintMore
set_option linter.unusedVariables false
set_option linter.unusedSimpArgs false
theorem putL_len : ∀ (l : List S36) (d : S36), (putL l d).length ≤ l.length + 1
  | [], d => by simp [putL]
  | x :: xs, d => by
    unfold putL
    have := putL_len xs d
    split
    · simp only [List.length_cons]; omega
    · split <;> simp
theorem putAll_ok : ∀ (l ds : List S36), (∀ d ∈ l, 0 < d.f1.length ∧ d.f1.length ≤ 6) → ∃ D, putAll ds l = some D ∧ D.length ≤ ds.length + l.length ∧ ∀ x ∈ D, x ∈ ds ∨ x ∈ l
  | [], ds, _ => ⟨ds, rfl, by simp, fun x hx => .inl hx⟩
  | d :: l, ds, h => by
    obtain ⟨h1, h2⟩ := h d (List.mem_cons_self ..)
    obtain ⟨D, e1, e2, e3⟩ := putAll_ok l (putL ds d) (fun x hx => h x (List.mem_cons_of_mem _ hx))
    refine ⟨D, ?_, ?_, fun x hx => ?_⟩
    · rw [putAll, if_pos ⟨h1, by omega⟩, e1]
    · have := putL_len ds d
      rw [List.length_cons]; omega
    · rcases e3 x hx with h | h
      · rcases putL_mem _ _ _ h with h | h
        · exact .inr (by rw [h]; exact List.mem_cons_self ..)
        · exact .inl h
      · exact .inr (List.mem_cons_of_mem _ h)
theorem deed_len0 {l : List S50} {d : S36} (h : DeedOk l d) : 0 < d.f1.length := by
  have := right_len h.1
  rw [h.2.1]; split <;> omega
theorem whole_all (l : List S50) : ∀ (ds : List S36), whole l ds (segB l ds).length = ds.length
  | [] => rfl
  | d :: ds => by
    rw [whole, segB_cons, List.length_append, if_pos (by omega), Nat.add_sub_cancel_left, whole_all l ds, List.length_cons]
theorem jread_seg (k : Nat) (l : List S50) (ds : List S36) (s : ByteArray) (hr : rightC l = true) (hok : ∀ d ∈ ds, DeedOk l d) (hl : ds.length ≤ 1000000) (hk : ds.length < k) (hs : s.size ≤ 1000000000) (h : bytesOf s = segB l ds) : journal_Read.f k l s = some (ds, 0) := by
  have := jread_f k l ds s (segB l ds).length hr hok hl hk hs (by rw [List.take_length]; exact h)
  rw [whole_all, List.take_length] at this
  exact this
theorem bytesOf_append (a b : ByteArray) : bytesOf (a ++ b) = bytesOf a ++ bytesOf b := by
  unfold bytesOf
  rw [ByteArray.data_append, Array.toList_append, List.map_append]
theorem segB_append (l : List S50) (a b : List S36) : segB l (a ++ b) = segB l a ++ segB l b := by simp [segB]
end Go.Proofs.YtojcbknclfamhaaDoor.A
namespace Go.Proofs.YtojcbknclfamhaaDoor.A
open Go.RowKit Go.Proofs.YtojcbknclfamhaaDoorW.PrintWords Go.Proofs.YtojcbknclfamhaaDoorW.PrintLast Go.Proofs.YtojcbknclfamhaaDoorW.PrintMore
set_option linter.unusedVariables false
set_option linter.unusedSimpArgs false
def keyB (a b : S45) : Bool := (a.f0 == b.f0) && ((a.f1 == b.f1) && (a.f2.toList == b.f2.toList))
theorem keyB_iff (a b : S45) : keyB a b = true ↔ a.f0 = b.f0 ∧ a.f1 = b.f1 ∧ a.f2.toList = b.f2.toList := by simp [keyB]
theorem keyB_eqv {a b : S45} (ha : a.f0 = false) : keyB a b = true ↔ Eqv a b := by
  rw [keyB_iff]
  unfold Eqv
  constructor
  · rintro ⟨h1, h2, h3⟩; exact ⟨h1, fun _ => ⟨h2, h3⟩⟩
  · rintro ⟨h1, h2⟩; exact ⟨h1, (h2 ha).1, (h2 ha).2⟩
theorem keyB_refl (a : S45) : keyB a a = true := by simp [keyB]
theorem keyB_symm {a b : S45} (h : keyB a b = true) : keyB b a = true := by rw [keyB_iff] at *; exact ⟨h.1.symm, h.2.1.symm, h.2.2.symm⟩
theorem keyB_trans {a b c : S45} (h : keyB a b = true) (k : keyB b c = true) : keyB a c = true := by rw [keyB_iff] at *; exact ⟨h.1.trans k.1, h.2.1.trans k.2.1, h.2.2.trans k.2.2⟩
def ofKey (k : S45) (l : List S36) : List S36 := l.filter (fun x => keyB (keyOf x) k)
theorem ofKey_cons (k : S45) (x : S36) (l : List S36) : ofKey k (x :: l) = if keyB (keyOf x) k = true then x :: ofKey k l else ofKey k l := by unfold ofKey; rw [List.filter_cons]
def NoNull (l : List S36) : Prop := ∀ x ∈ l, (keyOf x).f0 = false
theorem ofKey_none (k : S45) : ∀ (l : List S36), (∀ x ∈ l, ¬ keyB (keyOf x) k = true) → ofKey k l = []
  | [], _ => rfl
  | x :: l, h => by rw [ofKey_cons, if_neg (h x (List.mem_cons_self ..))]; exact ofKey_none k l (fun y hy => h y (List.mem_cons_of_mem _ hy))
theorem putL_ofKey (k : S45) : ∀ (ds : List S36) (d : S36), Srt ds → NoNull ds → (keyOf d).f0 = false → ofKey k (putL ds d) = if keyB (keyOf d) k = true then [d] else ofKey k ds
  | [], d, _, _, hd => by
    rw [show putL [] d = [d] from rfl, ofKey_cons]
    rfl
  | x :: xs, d, hs, hn, hd => by
    have hp := List.pairwise_cons.1 hs
    have hx0 : (keyOf x).f0 = false := hn x (List.mem_cons_self ..)
    have hnx : NoNull xs := fun y hy => hn y (List.mem_cons_of_mem _ hy)
    unfold putL
    by_cases hx : cmpV (keyOf x) (keyOf d) < 0
    · have hlt := (cmpV_neg _ _).1 hx
      rw [if_pos hx, ofKey_cons, putL_ofKey k xs d hp.2 hnx hd, ofKey_cons]
      by_cases hk : keyB (keyOf d) k = true
      · rw [if_pos hk, if_pos hk, if_neg]
        intro h
        have := (keyB_eqv hx0).1 (keyB_trans h (keyB_symm hk))
        exact Lt.irrefl _ (this.lt_left.1 hlt)
      · rw [if_neg hk, if_neg hk]
    · rw [if_neg hx]
      by_cases h0 : cmpV (keyOf x) (keyOf d) = 0
      · have he := (cmpV_zero _ _).1 h0
        have hb : keyB (keyOf x) (keyOf d) = true := (keyB_eqv hx0).2 he
        rw [if_pos h0, ofKey_cons, ofKey_cons]
        by_cases hk : keyB (keyOf d) k = true
        · rw [if_pos hk, if_pos hk, ofKey_none]
          intro y hy h
          have hy0 := hnx y hy
          have := (keyB_eqv hy0).1 (keyB_trans h (keyB_symm (keyB_trans hb hk)))
          exact Lt.irrefl _ (this.lt_right.1 (hp.1 y hy))
        · rw [if_neg hk, if_neg hk, if_neg (fun h => hk (keyB_trans (keyB_symm hb) h))]
      · rw [if_neg h0, ofKey_cons]
        have hlt : Lt (keyOf d) (keyOf x) := by
          rcases trichotomy (keyOf d) (keyOf x) with h1 | h1 | h1
          · exact h1
          · exact absurd ((cmpV_zero _ _).2 h1.symm) h0
          · exact absurd ((cmpV_neg _ _).2 h1) hx
        by_cases hk : keyB (keyOf d) k = true
        · rw [if_pos hk, if_pos hk, ofKey_none]
          intro y hy h
          rcases List.mem_cons.1 hy with rfl | hy
          · have := (keyB_eqv hd).1 (keyB_trans hk (keyB_symm h))
            exact Lt.irrefl _ (this.lt_left.1 hlt)
          · have hy0 := hnx y hy
            have := (keyB_eqv hd).1 (keyB_trans hk (keyB_symm h))
            exact Lt.irrefl _ (this.lt_left.1 (hlt.trans (hp.1 y hy)))
        · rw [if_neg hk, if_neg hk]
theorem putAll_srt : ∀ (l ds D : List S36), Srt ds → NoNull ds → NoNull l → putAll ds l = some D → Srt D ∧ ∀ k, ofKey k D = match (ofKey k l).getLast? with | some d => [d] | none => ofKey k ds
  | [], ds, D, hs, hn, _, h => by
    obtain rfl := Option.some.inj h
    exact ⟨hs, fun k => rfl⟩
  | d :: l, ds, D, hs, hn, hl, h => by
    have hd : (keyOf d).f0 = false := hl d (List.mem_cons_self ..)
    unfold putAll at h
    split at h
    case isFalse => cases h
    obtain ⟨h1, h2⟩ := putAll_srt l (putL ds d) D (putL_srt hs d) (fun x hx => by
      rcases putL_mem _ _ _ hx with rfl | hx
      · exact hd
      · exact hn x hx) (fun x hx => hl x (List.mem_cons_of_mem _ hx)) h
    refine ⟨h1, fun k => ?_⟩
    rw [h2 k, ofKey_cons, putL_ofKey k ds d hs hn hd]
    by_cases hk : keyB (keyOf d) k = true
    · rw [if_pos hk, if_pos hk, List.getLast?_cons]
      cases hg : (ofKey k l).getLast? <;> simp
    · rw [if_neg hk, if_neg hk]
theorem last_of {l D : List S36} (hl : NoNull l) (h : putAll [] l = some D) (k : S45) (d : S36) (hd : (ofKey k l).getLast? = some d) : ofKey k D = [d] := by
  have := (putAll_srt l [] D List.Pairwise.nil (fun x hx => by cases hx) hl h).2 k
  rw [hd] at this
  exact this
theorem ofKey_snoc (k : S45) (l : List S36) (x : S36) : ofKey k (l ++ [x]) = if keyB (keyOf x) k = true then ofKey k l ++ [x] else ofKey k l := by
  unfold ofKey
  rw [List.filter_append]
  by_cases h : keyB (keyOf x) k = true <;> simp [h]
theorem deed_key {l : List S50} {d : S36} (h : DeedOk l d) : (keyOf d).f0 = false := by
  obtain ⟨h1, h2, h3⟩ := h
  have hl := right_len h1
  obtain ⟨g, row⟩ := d
  simp only at h2 h3
  cases l with
  | nil => simp at hl
  | cons c cs =>
    cases row with
    | nil => rw [List.length_nil] at h2; split at h2 <;> simp at h2
    | cons v vs =>
      have hc : c.f1 = false := by
        unfold rightC at h1
        simp only [Bool.and_eq_true, Bool.not_eq_true'] at h1
        exact h1.1.2
      show v.f0 = false
      rcases h3.1 with ⟨-, q, -⟩ | ⟨q, -⟩ | ⟨q, -⟩
      · rw [hc] at q; cases q
      · exact q
      · exact q
theorem write_all (k : Nat) (hk : 20 < k) (l : List S50) (d : S36) (h64 : ∀ v ∈ d.f1, In64 v) : ∃ t er, journal_Write.f k l d.f0 d.f1 = some (t, er) ∧ (er = 0 → DeedOk l d ∧ bytesOf t = segB l [d] ∧ t.size ≤ 453) := by
  obtain ⟨t, er, hw, hw2⟩ := dwrite_f k l d.f0 d.f1 hk h64
  unfold journal_Write.f
  rw [hw]
  simp only [Option.bind_some]
  by_cases h0 : er = 0
  · obtain ⟨hd, ht⟩ := hw2 h0
    change DeedOk l d at hd
    change t = deedT l d at ht
    have hts := deedT_size l d hd
    rw [if_pos h0, fwrite_f k t (by omega) (by rw [ht]; omega)]
    refine ⟨_, _, rfl, fun _ => ⟨hd, ?_, ?_⟩⟩
    · rw [IsB.back (frameB_isB t), ht]; simp [segB]
    · rw [strOfNums_size, frameB_length, ht]; omega
  · rw [if_neg h0]
    exact ⟨_, _, rfl, fun h => absurd h h0⟩
theorem replay_all (k : Nat) (l : List S50) (p : List S36) (a : ByteArray) (hok : ∀ d ∈ p, DeedOk l d) (hn : p.length ≤ 100) (ha : bytesOf a = segB l p) (hk : 1000 < k) :
    ∃ D e, journal_Replay.f k l [a] = some (D, e) ∧ (p = [] → D = []) ∧ (p ≠ [] → e = 0 ∧ putAll [] p = some D ∧ D.length ≤ p.length ∧ ∀ x ∈ D, x ∈ p) := by
  have s1 := segB_length l p hok
  have z1 : a.size ≤ 140000 := by rw [← bytesOf_length, ha]; omega
  unfold journal_Replay.f
  rw [if_pos (by simp)]
  by_cases hr : rightC l = true
  · have r1 := jread_seg k l p a hr hok (by omega) (by omega) (by omega) ha
    obtain ⟨D, e1, l1, m1⟩ := putAll_ok p [] (fun d hd => ⟨deed_len0 (hok d hd), deed_len (hok d hd)⟩)
    rw [List.length_nil, Nat.zero_add] at l1
    refine ⟨D, 0, ?_, fun h => ?_, fun _ => ⟨rfl, e1, l1, fun x hx => (m1 x hx).resolve_left (by simp)⟩⟩
    · simp only [replayGo, r1, e1, Option.bind_some, if_true]
      rw [if_pos (by omega)]
    · subst h
      rw [List.length_nil] at l1
      exact List.eq_nil_of_length_eq_zero (by omega)
  · refine ⟨[], 4, ?_, fun _ => rfl, fun h => ?_⟩
    · simp only [replayGo, jread_no k l a hr, Option.bind_some]
      rw [if_neg (by decide)]
    · obtain ⟨d, q, rfl⟩ := List.exists_cons_of_ne_nil h
      exact absurd (hok d (List.mem_cons_self ..)).1 hr
theorem same_one (k : Nat) (d : S36) (h : d.f1.length ≤ 6) (hk : 20 < k) : tithebarnref07_Same.f k d.f0 d.f1 d.f0 d.f1 = some true := by
  unfold tithebarnref07_Same.f tithebarnref02_Same.f
  have hs := same_l d.f1 (by omega) d.f1.length 0 k (by omega) (by omega)
  rw [show ((0 : Nat) : Int) = 0 from rfl] at hs
  rw [if_pos (by simp), if_pos rfl, hs]
  rfl
end Go.Proofs.YtojcbknclfamhaaDoor.A
