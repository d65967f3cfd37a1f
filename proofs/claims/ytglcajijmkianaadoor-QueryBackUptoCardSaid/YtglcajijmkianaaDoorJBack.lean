/- Where a text is cut at the four blanks: by runes, and by bytes; no program in sight. · The words of a query that may be are read again as it; no program in sight. · The words of a query that may be are read again as it; no program in sight. · A query's text is parsed as it: the plain law of QueryBack; no program in sight. · QueryBack's walk: the text of a query is parsed as it. · How many queries a reading of a bulk holds; no program's run. -/
import Derived.Test.YtglcajijmkianaaDoorHRightAsk
import Derived.Test.YtglcajijmkianaaDoorHParse
import Derived.Lib.ItoaLen
import Derived.Test.YtglcajijmkianaaDoorHRd
import Derived.Test.YtglcajijmkianaaDoorBx8
import Derived.Test.YtglcajijmkianaaDoorHPure
import Derived.Test.YtglcajijmkianaaDoorHLives
import Derived.Test.YtglcajijmkianaaDoorRows
namespace Go.Proofs.YtglcajijmkianaaDoor.A
open Go.Lib
set_option linter.unusedVariables false
set_option linter.unusedSimpArgs false

/-- A byte that stands between words. -/
def bB (b : UInt8) : Bool := blankP b.toNat
/-- The words of bytes, one being begun. -/
def bsplit : List UInt8 → List UInt8 → List (List UInt8)
  | cur, [] => if cur = [] then [] else [cur]
  | cur, b :: t => if bB b = true then (if cur = [] then bsplit [] t else cur :: bsplit [] t) else bsplit (cur ++ [b]) t

theorem bsplit_run : ∀ (w : List UInt8) (cur t : List UInt8), (∀ b ∈ w, bB b = false) → bsplit cur (w ++ t) = bsplit (cur ++ w) t
  | [], cur, t, _ => by simp
  | b :: w, cur, t, h => by
    have hb := h b (List.mem_cons_self ..)
    rw [List.cons_append, bsplit, if_neg (by simp [hb]), bsplit_run w (cur ++ [b]) t (fun x hx => h x (List.mem_cons_of_mem _ hx))]
    simp

theorem blankP_big {c : Nat} (h : 128 ≤ c) : blankP c = false := by
  unfold blankP
  have h1 : (c == 32) = false := by simp; omega
  have h2 : (c == 9) = false := by simp; omega
  have h3 : (c == 10) = false := by simp; omega
  have h4 : (c == 13) = false := by simp; omega
  simp [h1, h2, h3, h4]
theorem blankP_small {c : Nat} (h : blankP c = true) : c < 128 := by
  by_cases hc : c < 128
  · exact hc
  · rw [blankP_big (by omega)] at h; cases h

set_option maxHeartbeats 2000000 in
theorem decN_non (n b0 b1 b2 b3 : Nat) (h : blankP b0 = false) :
    blankP (decodeN n b0 b1 b2 b3).1 = false ∧ ((decodeN n b0 b1 b2 b3).2 = 1 ∨ ((decodeN n b0 b1 b2 b3).2 = 2 ∧ 128 ≤ b1) ∨ ((decodeN n b0 b1 b2 b3).2 = 3 ∧ 128 ≤ b1 ∧ 128 ≤ b2) ∨ ((decodeN n b0 b1 b2 b3).2 = 4 ∧ 128 ≤ b1 ∧ 128 ≤ b2 ∧ 128 ≤ b3)) := by
  unfold decodeN
  repeat' split
  all_goals refine ⟨?_, ?_⟩
  all_goals first
    | exact h
    | (apply blankP_big; simp only; omega)
    | exact .inl rfl
    | exact .inr (.inl ⟨rfl, by omega⟩)
    | exact .inr (.inr (.inl ⟨rfl, by omega, by omega⟩))
    | exact .inr (.inr (.inr ⟨rfl, by omega, by omega, by omega⟩))

theorem getD_drop_take {l : List UInt8} {pos k : Nat} {b : UInt8} (h : b ∈ (l.drop pos).take k) : ∃ j, j < k ∧ pos + j < l.length ∧ b = l.getD (pos + j) 0 := by
  obtain ⟨j, hj, rfl⟩ := List.getElem_of_mem h
  have hj' : j < k ∧ pos + j < l.length := by
    rw [List.length_take, List.length_drop] at hj
    omega
  refine ⟨j, hj'.1, hj'.2, ?_⟩
  rw [List.getElem_take, List.getElem_drop, List.getD_eq_getElem?_getD, List.getElem?_eq_getElem hj'.2]
  rfl

/-- At a byte that is no blank, the rune is none, and none of its bytes is. -/
theorem dec_non (s : ByteArray) (pos : Nat) (h : bB (s.data.toList.getD pos 0) = false) :
    blankP (Utf8.decode s pos).1 = false ∧ ∀ b ∈ (s.data.toList.drop pos).take (Utf8.decode s pos).2, bB b = false := by
  have hd := decode_N s pos
  have hx := decN_non (s.data.toList.length - pos) (s.data.toList.getD pos 0).toNat (s.data.toList.getD (pos + 1) 0).toNat (s.data.toList.getD (pos + 2) 0).toNat (s.data.toList.getD (pos + 3) 0).toNat h
  rw [← hd] at hx
  refine ⟨hx.1, fun b hb => ?_⟩
  obtain ⟨j, hj, _, rfl⟩ := getD_drop_take hb
  have hx2 := hx.2
  match j, hj with
  | 0, _ => exact h
  | 1, hj => exact blankP_big (by omega)
  | 2, hj => exact blankP_big (by omega)
  | 3, hj => exact blankP_big (by omega)
  | j + 4, hj => omega

theorem dec_blank (s : ByteArray) (pos : Nat) (h : bB (s.data.toList.getD pos 0) = true) : Utf8.decode s pos = ((s.data.toList.getD pos 0).toNat, 1) := by
  rw [decode_N, decodeN_ascii _ _ _ _ _ (blankP_small h)]

theorem spansP_eq (s : ByteArray) : ∀ (f pos : Nat) (st : Option Nat) (acc : List (Nat × Nat)), s.size ≤ pos + f → pos ≤ s.size → (∀ a, st = some a → a < pos) →
    acc.map (fun p => pieceU s.data.toList p.1 p.2) ++ bsplit (openPiece s.data.toList st pos) (s.data.toList.drop pos) = (closeSpans s (spansFromP blankP s f pos st acc)).map (fun p => pieceU s.data.toList p.1 p.2)
  | 0, pos, st, acc, h, hp, hst => by
    obtain rfl : pos = s.size := by omega
    have hd : s.data.toList.drop s.size = [] := List.drop_eq_nil_of_le (by rw [← size_eq]; exact Nat.le_refl _)
    rw [hd, bsplit]
    cases st with
    | none => simp [spansFromP, closeSpans, openPiece]
    | some a =>
      have := pieceU_ne s.data.toList a s.size (hst a rfl) (by rw [← size_eq]; exact Nat.le_refl _)
      simp [spansFromP, closeSpans, openPiece, this]
  | f + 1, pos, st, acc, h, hp, hst => by
    by_cases hlt : pos < s.size
    · have hltl : pos < s.data.toList.length := by rw [← size_eq]; exact hlt
      have hdr : s.data.toList.drop pos = s.data.toList.getD pos 0 :: s.data.toList.drop (pos + 1) := by
        rw [List.drop_eq_getElem_cons hltl, List.getD_eq_getElem?_getD, List.getElem?_eq_getElem hltl]; rfl
      cases hb : bB (s.data.toList.getD pos 0) with
      | true =>
        have hdec := dec_blank s pos hb
        have hp : blankP (s.data.toList.getD pos 0).toNat = true := hb
        simp only [spansFromP, if_pos hlt, hdec, hp, if_true]
        rw [hdr, bsplit, if_pos hb]
        cases st with
        | none =>
          have ih := spansP_eq s f (pos + 1) none acc (by omega) (by omega) (fun a h => by cases h)
          simpa [openPiece] using ih
        | some a =>
          have hpn := pieceU_ne s.data.toList a pos (hst a rfl) (by rw [← size_eq]; omega)
          have ih := spansP_eq s f (pos + 1) none (acc ++ [(a, pos)]) (by omega) (by omega) (fun a h => by cases h)
          simpa [openPiece, hpn] using ih
      | false =>
        obtain ⟨hnb, hall⟩ := dec_non s pos hb
        have hw := width_pos s pos
        have hwn : pos + (Utf8.decode s pos).2 ≤ s.size := by
          have := decodeN_le_n' (s.size - pos) (s.get! pos).toNat (s.get! (pos + 1)).toNat (s.get! (pos + 2)).toNat (s.get! (pos + 3)).toNat (by omega)
          rw [← decode_at] at this
          omega
        have hrun : ∀ cur, bsplit cur (s.data.toList.drop pos) = bsplit (cur ++ (s.data.toList.drop pos).take (Utf8.decode s pos).2) (s.data.toList.drop (pos + (Utf8.decode s pos).2)) := fun cur => by
          rw [← bsplit_run _ cur _ hall, ← List.drop_drop, List.take_append_drop]
        simp only [spansFromP, if_pos hlt, hnb, Bool.false_eq_true, if_false]
        rw [hrun]
        cases st with
        | none =>
          have ih := spansP_eq s f (pos + (Utf8.decode s pos).2) (some pos) acc (by omega) hwn (fun a h => by cases h; omega)
          have e : ([] : List UInt8) ++ (s.data.toList.drop pos).take (Utf8.decode s pos).2 = pieceU s.data.toList pos (pos + (Utf8.decode s pos).2) := by
            unfold pieceU
            rw [List.nil_append, Nat.add_sub_cancel_left]
          simp only [openPiece] at ih ⊢
          rw [e]
          exact ih
        | some a =>
          have ih := spansP_eq s f (pos + (Utf8.decode s pos).2) (some a) acc (by omega) hwn (fun b h => by cases h; have := hst a rfl; omega)
          simp only [openPiece] at ih ⊢
          rw [pieceU_grow _ _ _ _ (Nat.le_of_lt (hst a rfl))]
          exact ih
    · obtain rfl : pos = s.size := by omega
      have hd : s.data.toList.drop s.size = [] := List.drop_eq_nil_of_le (by rw [← size_eq]; exact Nat.le_refl _)
      rw [hd, bsplit, spansFromP_end blankP s _ _ _ _ hlt]
      cases st with
      | none => simp [closeSpans, openPiece]
      | some a =>
        have := pieceU_ne s.data.toList a s.size (hst a rfl) (by rw [← size_eq]; exact Nat.le_refl _)
        simp [closeSpans, openPiece, this]

theorem extract_piece (s : ByteArray) (a b : Nat) : (s.extract a b).data.toList = pieceU s.data.toList a b := by
  unfold pieceU
  rw [ByteArray.data_extract, Array.toList_extract, List.extract_eq_take_drop]

/-- The words that the program sees are the words of the bytes. -/
theorem fields_bytes (s : ByteArray) : (Lib.goFieldsP blankP s).map (·.data.toList) = bsplit [] s.data.toList := by
  have h := spansP_eq s s.size 0 none [] (by omega) (Nat.zero_le _) (fun a h => by cases h)
  simp only [List.map_nil, List.nil_append, openPiece, List.drop_zero] at h
  rw [h]
  unfold goFieldsP spansOfP
  rw [List.map_map]
  exact List.map_congr_left (fun p _ => extract_piece s p.1 p.2)

/-- Words: none is empty, in none is a blank. -/
def Wd (w : List UInt8) : Prop := w ≠ [] ∧ ∀ b ∈ w, bB b = false
theorem bsplit_words : ∀ (cur l : List UInt8), (∀ b ∈ cur, bB b = false) → ∀ w ∈ bsplit cur l, Wd w
  | cur, [], hc, w, hw => by
    rw [bsplit] at hw
    split at hw
    · cases hw
    · rename_i hn
      rw [List.mem_singleton] at hw
      subst hw
      exact ⟨hn, hc⟩
  | cur, b :: t, hc, w, hw => by
    rw [bsplit] at hw
    split at hw
    · split at hw
      · exact bsplit_words [] t (by simp) w hw
      · rename_i hn
        rcases List.mem_cons.1 hw with rfl | hw
        · exact ⟨hn, hc⟩
        · exact bsplit_words [] t (by simp) w hw
    · rename_i hb
      refine bsplit_words (cur ++ [b]) t (fun x hx => ?_) w hw
      rcases List.mem_append.1 hx with hx | hx
      · exact hc x hx
      · rw [List.mem_singleton] at hx; subst hx; simpa using hb
theorem bsplit_join : ∀ ws : List (List UInt8), (∀ w ∈ ws, Wd w) → bsplit [] (Lib.join ws [32]) = ws
  | [], _ => rfl
  | [w], h => by
    have hw := h w (List.mem_cons_self ..)
    have e : Lib.join [w] [32] = w ++ [] := by simp [Lib.join]
    rw [e, bsplit_run w [] [] hw.2, bsplit, List.nil_append, if_neg hw.1]
  | w :: u :: ws, h => by
    have hw := h w (List.mem_cons_self ..)
    have ih := bsplit_join (u :: ws) (fun x hx => h x (List.mem_cons_of_mem _ hx))
    have e : Lib.join (w :: u :: ws) [32] = w ++ (32 :: Lib.join (u :: ws) [32]) := by simp [Lib.join]
    rw [e, bsplit_run w [] _ hw.2, bsplit, if_pos (by rfl), List.nil_append, if_neg hw.1, ih]
theorem fields_join (ws : List ByteArray) (h : ∀ w ∈ ws, Wd w.data.toList) (t : ByteArray) (ht : t.data.toList = Lib.join (ws.map (·.data.toList)) [32]) : Lib.goFieldsP blankP t = ws := by
  have h1 := fields_bytes t
  rw [ht, bsplit_join _ (by intro w hw; obtain ⟨x, hx, rfl⟩ := List.mem_map.1 hw; exact h x hx)] at h1
  refine List.map_inj_right (fun a b hab => ?_) |>.1 h1
  cases a; cases b
  simp only [ByteArray.mk.injEq]
  exact Array.toList_inj.1 hab
end Go.Proofs.YtglcajijmkianaaDoor.A
namespace Go.Proofs.YtglcajijmkianaaDoor.A
open Go.RowKit Go.Proofs.YtglcajijmkianaaDoorW.PrintWords Go.Proofs.YtglcajijmkianaaDoorW.PrintLast Go.Proofs.YtglcajijmkianaaDoorW.PrintMore
open Go.Shelf Go.Lib Go.Sort
set_option linter.unusedVariables false
set_option linter.unusedSimpArgs false

/-! numerals -/
theorem u8_nat (n : Nat) (h : n < 256) : (UInt8.ofNat n).toNat = n := by rw [UInt8.toNat_ofNat']; omega
theorem len_two {α : Type} {l : List α} (h : l.length = 2) : ∃ a b, l = [a, b] := by
  match l, h with
  | [a, b], _ => exact ⟨a, b, rfl⟩
theorem len_one {α : Type} {l : List α} (h : l.length = 1) : ∃ a, l = [a] := by
  match l, h with
  | [a], _ => exact ⟨a, rfl⟩
theorem decDigits_parse : ∀ (u : Nat) (r : List UInt8), u < 18446744073709551616 → parseUint10 0 (decDigits u ++ r) = parseUint10 u r := by
  intro u
  induction u using Nat.strongRecOn with
  | _ u ih =>
  intro r hu
  rw [decDigits]
  split
  · rename_i h
    have e : (UInt8.ofNat (48 + u)).toNat = 48 + u := u8_nat _ (by omega)
    rw [List.cons_append, List.nil_append, parseUint10, e, if_pos (by omega), if_neg (by omega), if_neg (by omega)]
    congr 1; omega
  · rename_i h
    have e : (UInt8.ofNat (48 + u % 10)).toNat = 48 + u % 10 := u8_nat _ (by omega)
    rw [List.append_assoc, ih (u / 10) (by omega) _ (by omega), List.cons_append, List.nil_append, parseUint10, e, if_pos (by omega), if_neg (by omega), if_neg (by omega)]
    congr 1; omega
theorem decDigits_mem : ∀ (u : Nat), ∀ c ∈ decDigits u, 48 ≤ c.toNat ∧ c.toNat ≤ 57 := by
  intro u
  induction u using Nat.strongRecOn with
  | _ u ih =>
  intro c hc
  rw [decDigits] at hc
  split at hc
  · rw [List.mem_singleton] at hc
    subst hc
    rw [u8_nat _ (by omega)]; omega
  · rcases List.mem_append.1 hc with hc | hc
    · exact ih (u / 10) (by omega) c hc
    · rw [List.mem_singleton] at hc
      subst hc
      rw [u8_nat _ (by omega)]; omega
theorem decDigits_ne (u : Nat) : decDigits u ≠ [] := by
  rw [decDigits]
  split <;> simp
theorem parseMag_dec (u : Nat) (h : u < 18446744073709551616) : parseMag (decDigits u) = .ok u := by
  unfold parseMag
  rw [if_neg (decDigits_ne u)]
  have := decDigits_parse u [] h
  rw [List.append_nil] at this
  rw [this, parseUint10]
theorem atoi_itoa (n : Int) (h : in64 n) : parseIntB 64 (itoa n) = .ok n := by
  unfold in64 at h
  rw [parseIntB_64]
  unfold itoa
  split
  · rw [atoiAll_minus, parseMag_dec _ (by omega), signed, if_neg (by omega)]
    congr 1; omega
  · have hm := decDigits_mem n.toNat
    have hp := parseMag_dec n.toNat (by omega)
    cases hd : decDigits n.toNat with
    | nil => exact absurd hd (decDigits_ne _)
    | cons c r =>
      rw [hd] at hm hp
      have hc := hm c (List.mem_cons_self ..)
      rw [atoiAll_plain c r (by omega) (by omega), hp, signless, if_neg (by omega)]
      congr 1; omega
theorem itoa_mem (n : Int) : ∀ c ∈ itoa n, c.toNat = 45 ∨ (48 ≤ c.toNat ∧ c.toNat ≤ 57) := by
  intro c hc
  unfold itoa at hc
  split at hc
  · rcases List.mem_cons.1 hc with rfl | hc
    · exact .inl rfl
    · exact .inr (decDigits_mem _ c hc)
  · exact .inr (decDigits_mem _ c hc)
theorem itoa_ne (n : Int) : itoa n ≠ [] := by
  unfold itoa
  split
  · simp
  · exact decDigits_ne _
theorem itoaB_list (n : Int) : (itoaB n).data.toList = itoa n := rfl
theorem itoaB_wd (n : Int) : Wd (itoaB n).data.toList := by
  refine ⟨itoa_ne n, fun b hb => ?_⟩
  have := itoa_mem n b hb
  unfold bB blankP
  have h1 : (b.toNat == 32) = false := by simp; omega
  have h2 : (b.toNat == 9) = false := by simp; omega
  have h3 : (b.toNat == 10) = false := by simp; omega
  have h4 : (b.toNat == 13) = false := by simp; omega
  simp [h1, h2, h3, h4]
theorem numF_itoa (n : Int) (h : in64 n) : numF (itoaB n) = (n, true) := by
  unfold numF
  rw [itoaB_list, atoi_itoa n h]
  simp
theorem itoaB_head (n : Int) : ∃ c r, (itoaB n).toList = c :: r ∧ c.toNat ≠ 40 ∧ c.toNat ≠ 39 ∧ c.toNat ≠ 110 := by
  rw [ByteArray.toList_eq, itoaB_list]
  cases h : itoa n with
  | nil => exact absurd h (itoa_ne n)
  | cons c r =>
    have := itoa_mem n c (by rw [h]; exact List.mem_cons_self ..)
    exact ⟨c, r, rfl, by omega, by omega, by omega⟩
theorem itoaB_size (n : Int) (h : in64 n) : (itoaB n).size ≤ 21 := by
  unfold in64 at h
  have := itoa_length_le n h.1 h.2
  rw [size_eq, itoaB_list]
  exact this

/-! which queries may be -/
theorem everyO_one {p : S28 → Option Bool} {k : S28} (h : everyO p [k] = some true) : p k = some true := by
  unfold everyO anyO anyO notO at h
  cases hp : p k with
  | none => rw [hp] at h; simp at h
  | some b => rw [hp] at h; cases b <;> simp at h ⊢
theorem everyO_two {p : S28 → Option Bool} {k l : S28} (h : everyO p [k, l] = some true) : p k = some true ∧ p l = some true := by
  unfold everyO anyO anyO anyO notO at h
  cases hp : p k with
  | none => rw [hp] at h; simp at h
  | some b =>
    rw [hp] at h
    cases b
    · simp at h
    · cases hl : p l with
      | none => rw [hl] at h; simp at h
      | some b => rw [hl] at h; cases b <;> simp at h ⊢
theorem toList_nil {s : ByteArray} (h : s.toList.isEmpty = true) : s = ⟨#[]⟩ := by
  rw [ByteArray.toList_eq, List.isEmpty_iff] at h
  cases s with
  | mk d => simp only [ByteArray.mk.injEq]; exact Array.toList_inj.1 (by simpa using h)
theorem bareAsk_z {a : S25} (h : bareAsk a = true) : a = z25 := by
  obtain ⟨a0, a1, ⟨a2, a3, a4⟩⟩ := a
  unfold bareAsk at h
  simp only [Bool.and_eq_true, beq_iff_eq, Bool.not_eq_true'] at h
  obtain ⟨rfl, rfl, rfl, rfl, h⟩ := h
  rw [toList_nil h]
  rfl

theorem right_ways {n : Nat} {q : S28} (h : rightO (n + 1) q = some true) :
    (q.f0 = 1 ∧ q.f2 = [] ∧ rightAskF q.f1 = true) ∨ (q.f0 = 4 ∧ q.f1 = z25 ∧ ∃ k, q.f2 = [k] ∧ rightO n k = some true) ∨
    ((q.f0 = 2 ∨ q.f0 = 3) ∧ q.f1 = z25 ∧ ∃ k l, q.f2 = [k, l] ∧ rightO n k = some true ∧ rightO n l = some true) := by
  obtain ⟨op, a, ks⟩ := q
  unfold rightO at h
  simp only at h ⊢
  split at h
  · cases h
  split at h
  · cases h
  rename_i hk
  have hk : ks.length = kidsN op := Classical.byContradiction hk
  split at h
  · rename_i h1
    subst h1
    refine .inl ⟨rfl, List.eq_nil_of_length_eq_zero (by rw [hk]; rfl), Option.some.inj h⟩
  split at h
  · cases h
  rename_i h1 h0
  split at h
  · cases h
  rename_i hb
  have hb : a = z25 := bareAsk_z (by simpa using hb)
  have hw : op = 2 ∨ op = 3 ∨ op = 4 := by
    unfold kidsN at h0
    by_cases h2 : op = 2
    · exact .inl h2
    by_cases h3 : op = 3
    · exact .inr (.inl h3)
    by_cases h4 : op = 4
    · exact .inr (.inr h4)
    · rw [if_neg (by simp [h2, h3]), if_neg h4] at h0; exact absurd rfl h0
  rcases hw with rfl | rfl | rfl
  · obtain ⟨k, l, rfl⟩ := len_two (by rw [hk]; rfl)
    exact .inr (.inr ⟨.inl rfl, hb, k, l, rfl, everyO_two h⟩)
  · obtain ⟨k, l, rfl⟩ := len_two (by rw [hk]; rfl)
    exact .inr (.inr ⟨.inr rfl, hb, k, l, rfl, everyO_two h⟩)
  · obtain ⟨k, rfl⟩ := len_one (by rw [hk]; rfl)
    exact .inr (.inl ⟨rfl, hb, k, rfl, everyO_one h⟩)

theorem idxFunc_none (s : ByteArray) : ∀ (f pos : Nat), s.size ≤ pos + f → pos ≤ s.size → idxFuncFrom blankP true s f pos < 0 → ∀ b ∈ s.data.toList.drop pos, bB b = false
  | 0, pos, h, hp, hi => by
    have : pos = s.size := by omega
    rw [List.drop_eq_nil_of_le (by rw [← size_eq]; omega)]
    simp
  | f + 1, pos, h, hp, hi => by
    by_cases hlt : pos < s.size
    · have hltl : pos < s.data.toList.length := by rw [← size_eq]; exact hlt
      simp only [idxFuncFrom, if_pos hlt] at hi
      split at hi
      · omega
      rename_i hne
      have hb : bB (s.data.toList.getD pos 0) = false := by
        cases hx : bB (s.data.toList.getD pos 0) with
        | false => rfl
        | true => rw [dec_blank s pos hx] at hne; exact absurd hx hne
      obtain ⟨_, hall⟩ := dec_non s pos hb
      have hw := width_pos s pos
      have hwn : pos + (Utf8.decode s pos).2 ≤ s.size := by
        have := decodeN_le_n' (s.size - pos) (s.get! pos).toNat (s.get! (pos + 1)).toNat (s.get! (pos + 2)).toNat (s.get! (pos + 3)).toNat (by omega)
        rw [← decode_at] at this
        omega
      have ih := idxFunc_none s f (pos + (Utf8.decode s pos).2) (by omega) hwn hi
      intro b hm
      rw [← List.take_append_drop (Utf8.decode s pos).2 (s.data.toList.drop pos), List.drop_drop] at hm
      rcases List.mem_append.1 hm with hm | hm
      · exact hall b hm
      · exact ih b hm
    · rw [List.drop_eq_nil_of_le (by rw [← size_eq]; omega)]
      simp

theorem rightAsk_ways {a : S25} (h : rightAskF a = true) :
    (4 ≤ a.f0 ∧ a.f0 ≤ 5 ∧ 0 ≤ a.f1 ∧ a.f1 < 6 ∧ a.f2 = z23) ∨
    (1 ≤ a.f0 ∧ a.f0 < 4 ∧ 0 ≤ a.f1 ∧ a.f1 < 6 ∧ a.f2.f0 = false ∧ ((a.f2.f2.toList.isEmpty = true ∧ a.f2.f2 = ⟨#[]⟩) ∨ (a.f2.f2.toList.isEmpty = false ∧ a.f2.f1 = 0)) ∧ a.f2.f2.size ≤ 64 ∧ ∀ b ∈ a.f2.f2.data.toList, bB b = false) := by
  obtain ⟨a0, a1, ⟨a2, a3, a4⟩⟩ := a
  unfold rightAskF at h
  simp only at h ⊢
  split at h
  · cases h
  rename_i hr
  split at h
  · rename_i h4
    simp only [Bool.and_eq_true, beq_iff_eq, Bool.not_eq_true'] at h
    obtain ⟨rfl, rfl, h⟩ := h
    rw [toList_nil h]
    exact .inl ⟨h4, by omega, by omega, by omega, rfl⟩
  split at h
  · cases h
  rename_i h2
  split at h
  · cases h
  rename_i h3
  split at h
  · cases h
  rename_i h4
  refine .inr ⟨by omega, by omega, by omega, by omega, by simpa using h2, ?_, by omega, ?_⟩
  · cases he : a4.toList.isEmpty with
    | true => exact .inl ⟨rfl, toList_nil he⟩
    | false =>
      refine .inr ⟨rfl, ?_⟩
      by_cases h0 : a3 = 0
      · exact h0
      · exact absurd ⟨by simpa using h0, he⟩ h3
  · have h' : decide (0 ≤ idxFunc blankP true a4) = false := by simpa using h
    have h0 := of_decide_eq_false h'
    have h1 : idxFuncFrom blankP true a4 a4.size 0 < 0 := by unfold idxFunc at h0; omega
    have := idxFunc_none a4 a4.size 0 (by omega) (Nat.zero_le _) h1
    simpa using this
end Go.Proofs.YtglcajijmkianaaDoor.A
namespace Go.Proofs.YtglcajijmkianaaDoor.A
open Go.RowKit Go.Proofs.YtglcajijmkianaaDoorW.PrintWords Go.Proofs.YtglcajijmkianaaDoorW.PrintLast Go.Proofs.YtglcajijmkianaaDoorW.PrintMore
open Go.Shelf Go.Lib Go.Sort
set_option linter.unusedVariables false
set_option linter.unusedSimpArgs false

theorem nextF_cons (x : ByteArray) (l : List ByteArray) : nextF (x :: l) false = (x, l, false) := rfl
theorem isS_itoa (n : Int) : isS (itoaB n) [40] = false := by
  obtain ⟨c, r, h, h40, _⟩ := itoaB_head n
  unfold isS
  rw [h]
  refine decide_eq_false fun e => h40 ?_
  simp only [List.cons.injEq] at e
  rw [e.1]; rfl
theorem isS_itoa_not (n : Int) : isS (itoaB n) [110, 111, 116] = false := by
  obtain ⟨c, r, h, _, _, h110⟩ := itoaB_head n
  unfold isS
  rw [h]
  refine decide_eq_false fun e => h110 ?_
  simp only [List.cons.injEq] at e
  rw [e.1]; rfl
theorem isS_lit (l s : List UInt8) : isS ⟨l.toArray⟩ s = decide (l = s) := by
  unfold isS
  rw [show (⟨l.toArray⟩ : ByteArray).toList = l from by rw [ByteArray.toList_eq]]
theorem opOf_sign : ∀ i : Nat, 1 ≤ i → i ≤ 5 → opOf (signsL.getD i ⟨#[]⟩) = (i : Int) := by
  intro i h1 h5
  have t1 : (⟨#[61]⟩ : ByteArray).toList = [61] := by rw [ByteArray.toList_eq]
  have t2 : (⟨#[60]⟩ : ByteArray).toList = [60] := by rw [ByteArray.toList_eq]
  have t3 : (⟨#[62, 61]⟩ : ByteArray).toList = [62, 61] := by rw [ByteArray.toList_eq]
  have t4 : (⟨#[110, 117, 108, 108]⟩ : ByteArray).toList = [110, 117, 108, 108] := by rw [ByteArray.toList_eq]
  have t5 : (⟨#[118, 97, 108, 117, 101]⟩ : ByteArray).toList = [118, 97, 108, 117, 101] := by rw [ByteArray.toList_eq]
  match i, h1, h5 with
  | 1, _, _ => show opOf ⟨#[61]⟩ = 1; unfold opOf; rw [t1]; decide
  | 2, _, _ => show opOf ⟨#[60]⟩ = 2; unfold opOf; rw [t2]; decide
  | 3, _, _ => show opOf ⟨#[62, 61]⟩ = 3; unfold opOf; rw [t3]; decide
  | 4, _, _ => show opOf ⟨#[110, 117, 108, 108]⟩ = 4; unfold opOf; rw [t4]; decide
  | 5, _, _ => show opOf ⟨#[118, 97, 108, 117, 101]⟩ = 5; unfold opOf; rw [t5]; decide
theorem cutq (s : ByteArray) : ((⟨#[39]⟩ : ByteArray) ++ s).toList = 39 :: s.data.toList ∧ ((⟨#[39]⟩ : ByteArray) ++ s).size = 1 + s.size ∧ ((⟨#[39]⟩ : ByteArray) ++ s).extract 1 ((⟨#[39]⟩ : ByteArray) ++ s).size = s := by
  have hd : ((⟨#[39]⟩ : ByteArray) ++ s).data = #[39] ++ s.data := ByteArray.data_append
  have hs : ((⟨#[39]⟩ : ByteArray) ++ s).size = 1 + s.size := ByteArray.size_append
  refine ⟨by rw [ByteArray.toList_eq, hd]; simp, hs, ?_⟩
  have : (((⟨#[39]⟩ : ByteArray) ++ s).extract 1 ((⟨#[39]⟩ : ByteArray) ++ s).size).data.toList = s.data.toList := by
    rw [extract_piece, hd, hs]
    unfold pieceU
    rw [show 1 + s.size - 1 = s.data.toList.length from by rw [← size_eq]; omega]
    have e1 : ((#[39] : Array UInt8) ++ s.data).toList.drop 1 = s.data.toList := by simp
    rw [e1]
    exact List.take_length
  cases hx : (((⟨#[39]⟩ : ByteArray) ++ s).extract 1 ((⟨#[39]⟩ : ByteArray) ++ s).size) with
  | mk d =>
    rw [hx] at this
    cases s with
    | mk e => simp only [ByteArray.mk.injEq]; exact Array.toList_inj.1 this

/-- The words of an ask are read as it. -/
theorem ask_back {a : S25} (h : rightAskF a = true) (hn : in64 a.f2.f1) (rest : List ByteArray) :
    ∃ l, askWords a = itoaB a.f1 :: l ∧ askF (l ++ rest) false (itoaB a.f1) = (a, rest, false) := by
  obtain ⟨op, col, ⟨nul, num, txt⟩⟩ := a
  refine ⟨signsL.getD op.toNat ⟨#[]⟩ :: (if 4 ≤ op then [] else if txt.toList.isEmpty then [itoaB num] else [(⟨#[39]⟩ : ByteArray) ++ txt]), rfl, ?_⟩
  simp only at hn ⊢
  rcases rightAsk_ways h with ⟨h4, h5, c0, c6, hz⟩ | ⟨h1, h4, c0, c6, hf, hv, hsz, hb⟩
  · simp only at h4 h5 c0 c6 hz
    cases hz
    have hc : numF (itoaB col) = (col, true) := numF_itoa col ⟨by omega, by omega⟩
    have hop := opOf_sign op.toNat (by omega) (by omega)
    rw [show ((op.toNat : Nat) : Int) = op from by omega] at hop
    have d0 : decide (0 ≤ col) = true := decide_eq_true c0
    have d6 : decide (col < 6) = true := decide_eq_true c6
    have dop : decide (0 < op) = true := decide_eq_true (by omega)
    simp only [if_pos h4, List.append_nil, List.cons_append, List.nil_append, askF, hc, d0, d6, Bool.not_true, Bool.or_false, Bool.and_self, nextF_cons, hop, dop]
    rw [if_neg (by omega)]
  · simp only at h1 h4 c0 c6 hf hv hsz hb
    subst hf
    have hc : numF (itoaB col) = (col, true) := numF_itoa col ⟨by omega, by omega⟩
    have hop := opOf_sign op.toNat (by omega) (by omega)
    rw [show ((op.toNat : Nat) : Int) = op from by omega] at hop
    have d0 : decide (0 ≤ col) = true := decide_eq_true c0
    have d6 : decide (col < 6) = true := decide_eq_true c6
    have dop : decide (0 < op) = true := decide_eq_true (by omega)
    have n4 : ¬ 4 ≤ op := by omega
    have h03 : 0 < op ∧ op < 4 := ⟨by omega, by omega⟩
    rcases hv with ⟨he, rfl⟩ | ⟨he, rfl⟩
    · obtain ⟨c, r, hcr, _, h39, _⟩ := itoaB_head num
      have ht : ¬ (itoaB num).toList.take 1 = [39] := by
        rw [hcr]
        intro e
        simp only [List.take_succ_cons, List.take_zero, List.cons.injEq] at e
        exact h39 (by rw [e.1]; rfl)
      simp only [if_neg n4, he, if_true, List.cons_append, List.nil_append, askF, hc, d0, d6, Bool.not_true, Bool.or_false, Bool.and_self, nextF_cons, hop, dop, if_pos h03, if_neg ht, numF_itoa num hn]
    · obtain ⟨q1, q2, q3⟩ := cutq txt
      have ht : ((⟨#[39]⟩ : ByteArray) ++ txt).toList.take 1 = [39] := by rw [q1]; rfl
      have hne : 1 < ((⟨#[39]⟩ : ByteArray) ++ txt).size := by
        rw [q2]
        have : txt.size ≠ 0 := fun h0 => by
          rw [ByteArray.toList_eq, List.isEmpty_eq_false_iff] at he
          exact he (List.eq_nil_of_length_eq_zero (by rw [← size_eq]; exact h0))
        omega
      simp only [if_neg n4, he, Bool.false_eq_true, if_false, List.cons_append, List.nil_append, askF, hc, d0, d6, Bool.not_true, Bool.or_false, Bool.and_self, nextF_cons, hop, dop, if_pos h03, if_pos ht, q3, decide_eq_true hne]

/-- How many queries a query is of. -/
def szQ : Nat → S28 → Nat
  | 0, _ => 1
  | n + 1, q => 1 + (q.f2.map (szQ n)).sum

theorem wd_lit (l : List UInt8) (h : (decide (l ≠ []) && l.all (fun b => !bB b)) = true) : Wd (⟨l.toArray⟩ : ByteArray).data.toList := by
  simp only [Bool.and_eq_true, decide_eq_true_eq, List.all_eq_true, Bool.not_eq_true'] at h
  exact ⟨h.1, h.2⟩
theorem wd_quote {s : ByteArray} (h : ∀ b ∈ s.data.toList, bB b = false) : Wd ((⟨#[39]⟩ : ByteArray) ++ s).data.toList := by
  have e : ((⟨#[39]⟩ : ByteArray) ++ s).data.toList = 39 :: s.data.toList := by rw [← ByteArray.toList_eq]; exact (cutq s).1
  rw [e]
  refine ⟨by simp, fun b hb => ?_⟩
  rcases List.mem_cons.1 hb with rfl | hb
  · rfl
  · exact h b hb

/-- What a word is: a word, and short. -/
def Wk (w : ByteArray) : Prop := Wd w.data.toList ∧ w.size ≤ 65
theorem wk_lit (l : List UInt8) (h : (decide (l ≠ []) && l.all (fun b => !bB b)) = true) (hs : l.length ≤ 65) : Wk ⟨l.toArray⟩ := ⟨wd_lit l h, by rw [size_eq]; exact hs⟩
theorem wk_itoa (n : Int) (h : in64 n) : Wk (itoaB n) := ⟨itoaB_wd n, by have := itoaB_size n h; omega⟩
theorem wk_sign : ∀ i : Nat, 1 ≤ i → i ≤ 5 → Wk (signsL.getD i ⟨#[]⟩) := by
  intro i h1 h5
  match i, h1, h5 with
  | 1, _, _ => exact wk_lit [61] (by decide) (by decide)
  | 2, _, _ => exact wk_lit [60] (by decide) (by decide)
  | 3, _, _ => exact wk_lit [62, 61] (by decide) (by decide)
  | 4, _, _ => exact wk_lit [110, 117, 108, 108] (by decide) (by decide)
  | 5, _, _ => exact wk_lit [118, 97, 108, 117, 101] (by decide) (by decide)
theorem ask_words {a : S25} (h : rightAskF a = true) (hn : in64 a.f2.f1) : (∀ w ∈ askWords a, Wk w) ∧ (askWords a).length ≤ 5 := by
  obtain ⟨op, col, ⟨nul, num, txt⟩⟩ := a
  unfold askWords
  simp only at hn ⊢
  rcases rightAsk_ways h with ⟨h4, h5, c0, c6, hz⟩ | ⟨h1, h4, c0, c6, hf, hv, hsz, hb⟩
  · simp only at h4 h5 c0 c6 hz
    have w1 := wk_itoa col ⟨by omega, by omega⟩
    have w2 := wk_sign op.toNat (by omega) (by omega)
    rw [if_pos h4]
    refine ⟨fun w hw => ?_, by simp⟩
    simp only [List.append_nil, List.mem_cons, List.not_mem_nil, or_false] at hw
    rcases hw with rfl | rfl
    · exact w1
    · exact w2
  · simp only at h1 h4 c0 c6 hf hv hsz hb
    have w1 := wk_itoa col ⟨by omega, by omega⟩
    have w2 := wk_sign op.toNat (by omega) (by omega)
    rw [if_neg (by omega)]
    split
    · refine ⟨fun w hw => ?_, by simp⟩
      simp only [List.cons_append, List.nil_append, List.mem_cons, List.not_mem_nil, or_false] at hw
      rcases hw with rfl | rfl | rfl
      · exact w1
      · exact w2
      · exact wk_itoa num hn
    · refine ⟨fun w hw => ?_, by simp⟩
      simp only [List.cons_append, List.nil_append, List.mem_cons, List.not_mem_nil, or_false] at hw
      rcases hw with rfl | rfl | rfl
      · exact w1
      · exact w2
      · exact ⟨wd_quote hb, by rw [(cutq txt).2.1]; omega⟩

theorem wf_in {n : Int} (h : (Lit.int .i64 n).wf = true) : in64 n := by
  unfold in64
  have e0 : IntKind.i64.min = -9223372036854775808 := by rfl
  have e1 : IntKind.i64.max = 9223372036854775807 := by rfl
  simp only [Lit.wf, e0, e1, Bool.and_eq_true, decide_eq_true_eq] at h
  exact h
theorem words_back : ∀ (n m : Nat) (q : S28), rightO n q = some true → Gd28 m q → ∃ ws, wordsO n q = some ws ∧ (∀ w ∈ ws, Wk w) ∧ ws.length ≤ 5 * szQ n q ∧ (∃ x t, ws = x :: t ∧ isS x [110, 111, 116] = false) ∧ ∀ rest, queryF n (ws ++ rest) false = (q, rest, false)
  | 0, m, q, h, _ => by unfold rightO at h; split at h <;> cases h
  | n + 1, 0, q, h, hg => hg.elim
  | n + 1, m + 1, q, h, hg => by
    obtain ⟨op, a, ks⟩ := q
    obtain ⟨_, ⟨_, _, hN, _⟩, _, hks⟩ := hg
    rcases right_ways h with ⟨h1, h2, hr⟩ | ⟨h1, h2, k, h3, hk⟩ | ⟨h1, h2, k, l, h3, hk, hl⟩
    · simp only at h1 h2 hr hN
      subst h1; subst h2
      have hN := wf_in hN
      obtain ⟨w1, w2⟩ := ask_words hr hN
      obtain ⟨l, e, hb⟩ := ask_back hr hN []
      have hway : 1 ≤ a.f0 ∧ a.f0 ≤ 5 ∧ in64 a.f1 ∧ a.f2.f2.size ≤ 4096 := by
        rcases rightAsk_ways hr with ⟨h4, h5, c0, c6, hz⟩ | ⟨h1, h4, c0, c6, hf, hv, hsz, hb⟩
        · refine ⟨by omega, h5, ⟨by omega, by omega⟩, ?_⟩
          rw [hz]; exact Nat.zero_le _
        · exact ⟨h1, by omega, ⟨by omega, by omega⟩, by omega⟩
      refine ⟨askWords a, ?_, w1, ?_, ⟨_, _, e, isS_itoa_not _⟩, fun rest => ?_⟩
      · simp only [wordsO, if_true]
        rw [if_pos ⟨hway.2.2.1, hN, hway.1, hway.2.1, hway.2.2.2⟩]
      · simp only [szQ, List.map_nil, List.sum_nil]; omega
      · obtain ⟨l', e', hb'⟩ := ask_back hr hN rest
        rw [e'] 
        rw [List.cons_append, queryF_ask n (itoaB a.f1 :: (l' ++ rest)) false rfl (isS_itoa a.f1)]
        simp only [nextF_cons, hb']
    · simp only at h1 h2 h3
      subst h1; subst h2; subst h3
      obtain ⟨ws, e, hw, hlen, ⟨x, t, ex, hx⟩, hq⟩ := words_back n m k hk (hks k (List.mem_cons_self ..))
      refine ⟨[(⟨#[40]⟩ : ByteArray), ⟨#[110, 111, 116]⟩] ++ ws ++ [⟨#[41]⟩], ?_, ?_, ?_, ⟨_, _, rfl, by rw [isS_lit]; decide⟩, fun rest => ?_⟩
      · simp only [wordsO]
        rw [if_neg (by decide), if_pos (by decide), e]
        rfl
      · intro w hm
        simp only [List.cons_append, List.nil_append, List.mem_cons, List.mem_append, List.not_mem_nil, or_false] at hm
        rcases hm with rfl | rfl | hm | rfl
        · exact wk_lit [40] (by decide) (by decide)
        · exact wk_lit [110, 111, 116] (by decide) (by decide)
        · exact hw w hm
        · exact wk_lit [41] (by decide) (by decide)
      · simp only [szQ, List.map_cons, List.map_nil, List.sum_cons, List.sum_nil, List.length_append, List.length_cons, List.length_nil]; omega
      · have e1 : [(⟨#[40]⟩ : ByteArray), ⟨#[110, 111, 116]⟩] ++ ws ++ [⟨#[41]⟩] ++ rest = (⟨#[40]⟩ : ByteArray) :: ⟨#[110, 111, 116]⟩ :: (ws ++ ((⟨#[41]⟩ : ByteArray) :: rest)) := by simp
        rw [e1]
        have hnx := hq ((⟨#[41]⟩ : ByteArray) :: rest)
        rw [queryF_not n _ false _ _ rfl (by rw [nextF_cons, isS_lit]; decide) rfl (by rw [isS_lit]; decide)]
        simp only [nextF_cons, hnx, show isS (⟨#[41]⟩ : ByteArray) [41] = true from by rw [isS_lit]; decide]
        rfl
    · simp only at h1 h2 h3
      subst h2; subst h3
      obtain ⟨ws, e, hw, hlen, ⟨x, t, ex, hx⟩, hq⟩ := words_back n m k hk (hks k (by simp))
      obtain ⟨us, e2, hw2, hlen2, _, hq2⟩ := words_back n m l hl (hks l (by simp))
      have hwd : ∃ wd : ByteArray, (if op = 3 then (⟨#[111, 114]⟩ : ByteArray) else ⟨#[97, 110, 100]⟩) = wd ∧ Wk wd ∧ (isS wd [97, 110, 100] = true ∨ isS wd [111, 114] = true) ∧ (if isS wd [97, 110, 100] = true then (2 : Int) else 3) = op := by
        rcases h1 with rfl | rfl
        · exact ⟨⟨#[97, 110, 100]⟩, if_neg (by decide), wk_lit [97, 110, 100] (by decide) (by decide), .inl (by rw [isS_lit]; decide), by rw [isS_lit]; decide⟩
        · exact ⟨⟨#[111, 114]⟩, if_pos rfl, wk_lit [111, 114] (by decide) (by decide), .inr (by rw [isS_lit]; decide), by rw [isS_lit]; decide⟩
      obtain ⟨wd, hwd, kwd, hor, hop⟩ := hwd
      have hn1 : ¬ op = 1 := by omega
      have hn4 : ¬ op = 4 := by omega
      refine ⟨[(⟨#[40]⟩ : ByteArray)] ++ ws ++ [wd] ++ us ++ [⟨#[41]⟩], ?_, ?_, ?_, ⟨⟨#[40]⟩, ws ++ [wd] ++ us ++ [⟨#[41]⟩], by simp, by rw [isS_lit]; decide⟩, fun rest => ?_⟩
      · simp only [wordsO]
        rw [if_neg hn1, if_neg hn4, e, e2, hwd]
        rfl
      · intro w hm
        simp only [List.cons_append, List.nil_append, List.mem_cons, List.mem_append, List.not_mem_nil, or_false] at hm
        rcases hm with rfl | ((hm | rfl) | hm) | rfl
        · exact wk_lit [40] (by decide) (by decide)
        · exact hw w hm
        · exact kwd
        · exact hw2 w hm
        · exact wk_lit [41] (by decide) (by decide)
      · simp only [szQ, List.map_cons, List.map_nil, List.sum_cons, List.sum_nil, List.length_append, List.length_cons, List.length_nil]; omega
      · have e1 : [(⟨#[40]⟩ : ByteArray)] ++ ws ++ [wd] ++ us ++ [⟨#[41]⟩] ++ rest = (⟨#[40]⟩ : ByteArray) :: (ws ++ (wd :: (us ++ ((⟨#[41]⟩ : ByteArray) :: rest)))) := by simp
        rw [e1]
        have h1q := hq (wd :: (us ++ ((⟨#[41]⟩ : ByteArray) :: rest)))
        have h2q := hq2 ((⟨#[41]⟩ : ByteArray) :: rest)
        rw [queryF_two n _ false rfl (by rw [nextF_cons, isS_lit]; decide) (by rw [nextF_cons, ex]; exact hx)]
        simp only [nextF_cons, h1q, h2q, if_pos hor, hop, show isS (⟨#[41]⟩ : ByteArray) [41] = true from by rw [isS_lit]; decide]
        rfl
end Go.Proofs.YtglcajijmkianaaDoor.A
namespace Go.Proofs.YtglcajijmkianaaDoor.A
open Go.RowKit Go.Proofs.YtglcajijmkianaaDoorW.PrintWords Go.Proofs.YtglcajijmkianaaDoorW.PrintLast Go.Proofs.YtglcajijmkianaaDoorW.PrintMore
open Go.Shelf Go.Lib Go.Sort
set_option linter.unusedVariables false
set_option linter.unusedSimpArgs false

theorem notO_total {p : S28 → Option Bool} {x : S28} (h : ∃ b, p x = some b) : ∃ b, notO p x = some b := by
  obtain ⟨b, h⟩ := h
  exact ⟨!b, by simp [notO, h]⟩
theorem anyO_total {p : S28 → Option Bool} : ∀ xs : List S28, (∀ x ∈ xs, ∃ b, p x = some b) → ∃ b, anyO p xs = some b
  | [], _ => ⟨false, rfl⟩
  | x :: xs, h => by
    obtain ⟨b, hb⟩ := h x (List.mem_cons_self ..)
    obtain ⟨c, hc⟩ := anyO_total xs (fun y hy => h y (List.mem_cons_of_mem _ hy))
    cases b
    · exact ⟨c, by simp [anyO, hb, hc]⟩
    · exact ⟨true, by simp [anyO, hb]⟩
theorem right_total : ∀ (n m : Nat) (q : S28), Gd28 m q → ∃ b, rightO n q = some b
  | _, 0, q, h => h.elim
  | 0, m + 1, q, h => ⟨false, by unfold rightO; rw [if_neg (by show ¬ wf64 q.f0 = false; unfold wf64; rw [h.1]; decide)]⟩
  | n + 1, m + 1, q, h => by
    have hw : ¬ wf64 q.f0 = false := by unfold wf64; rw [h.1]; decide
    unfold rightO
    rw [if_neg hw]
    split
    · exact ⟨_, rfl⟩
    split
    · exact ⟨_, rfl⟩
    split
    · exact ⟨_, rfl⟩
    split
    · exact ⟨_, rfl⟩
    obtain ⟨b, hb⟩ := anyO_total (p := notO fun k => rightO n k) q.f2 (fun x hx => notO_total (right_total n m x (h.2.2.2 x hx)))
    exact ⟨!b, by simp [everyO, hb]⟩

theorem join_len (ws : List ByteArray) (h : ∀ w ∈ ws, w.size ≤ 65) : (Lib.join (ws.map (·.data.toList)) [32]).length ≤ 66 * ws.length := by
  induction ws with
  | nil => simp [Lib.join, List.intercalate]
  | cons w ws ih =>
    have hw := h w (List.mem_cons_self ..)
    rw [size_eq] at hw
    have ih := ih (fun x hx => h x (List.mem_cons_of_mem _ hx))
    cases ws with
    | nil =>
      have e : Lib.join ([w].map (·.data.toList)) [32] = w.data.toList := by simp [Lib.join]
      rw [e]
      simp only [List.length_cons, List.length_nil]
      omega
    | cons u us =>
      have e : Lib.join ((w :: u :: us).map (·.data.toList)) [32] = w.data.toList ++ (32 :: Lib.join ((u :: us).map (·.data.toList)) [32]) := by simp [Lib.join]
      rw [e, List.length_append, List.length_cons]
      simp only [List.length_cons] at ih ⊢
      omega

/-- A query of not too many: it may not be, and has no text; or its text is parsed as it. -/
theorem show_parse (m : Nat) (q : S28) (hg : Gd28 m q) (hs : szQ 50 q ≤ 8388608) :
    showF q = some (⟨#[]⟩, 4) ∨ ∃ s, showF q = some (s, 0) ∧ parseF s = some (q, 0) := by
  obtain ⟨b, hb⟩ := right_total 50 m q hg
  cases b with
  | false => exact .inl (by simp [showF, hb])
  | true =>
    refine .inr ?_
    obtain ⟨ws, e, hw, hlen, _, hq⟩ := words_back 50 m q hb hg
    have hl := join_len ws (fun w hx => (hw w hx).2)
    have ht : (⟨(Lib.join (ws.map (·.data.toList)) [32]).toArray⟩ : ByteArray).data.toList = Lib.join (ws.map (·.data.toList)) [32] := rfl
    have hsz : (⟨(Lib.join (ws.map (·.data.toList)) [32]).toArray⟩ : ByteArray).size = (Lib.join (ws.map (·.data.toList)) [32]).length := by rw [size_eq, ht]
    have hf : fieldsOf ⟨(Lib.join (ws.map (·.data.toList)) [32]).toArray⟩ = ws := fields_join ws (fun w hx => (hw w hx).1) _ ht
    have hq := hq []
    rw [List.append_nil] at hq
    refine ⟨⟨(Lib.join (ws.map (·.data.toList)) [32]).toArray⟩, ?_, ?_⟩
    · have hj : strings_Join.f ws ⟨#[32]⟩ = some ⟨(Lib.join (ws.map (·.data.toList)) [32]).toArray⟩ := by
        unfold strings_Join.f
        exact if_pos ⟨by omega, by show (Lib.join (ws.map (·.data.toList)) [32]).length ≤ _; omega⟩
      simp only [showF, hb, Option.bind_some, e]
      rw [if_neg (by decide), if_pos (by omega), hj]
      rfl
    · unfold parseF
      rw [hf, hq, hsz]
      rw [if_pos ⟨by omega, by omega, fun x hx => by have := (hw x hx).2; omega⟩]
      simp [hb]

/-! the document's Same, of one query -/
def sameAt (k : Nat) (p q : S28) : Option Bool := tithebarnref23_Same.f k p.f0 p.f1.f0 p.f1.f1 p.f1.f2.f0 p.f1.f2.f1 p.f1.f2.f2 p.f2 q.f0 q.f1.f0 q.f1.f1 q.f1.f2.f0 q.f1.f2.f1 q.f1.f2.f2 q.f2
theorem rd28_at' {xs : List S28} {i : Nat} (h : i < xs.length) : rd_T28 xs (i : Int) = xs[i] := by simp [rd_T28, h]
theorem wrap_succ' {n i : Nat} (h : n ≤ maxLen) (hi : i < n) : wrap64 ((i : Int) + 1) = ((i + 1 : Nat) : Int) := by unfold wrap64; unfold maxLen at h; omega
theorem same_l0 (a0 a1 a2 : Int) (a3 : Bool) (a4 : Int) (a5 : ByteArray) (xs : List S28) (hl : xs.length ≤ maxLen) (hv : ∀ x ∈ xs, Ev (fun k => sameAt k x x) true) : ∀ d i, xs.length - i ≤ d → i ≤ xs.length →
    Ev (fun k => tithebarnref23_Same.l0 k (i : Int) a0 a1 a2 a3 a4 a5 xs a0 a1 a2 a3 a4 a5 xs) true := by
  intro d
  induction d with
  | zero =>
    intro i hd hi
    refine Ev.step (f := fun _ => some true) (fun k => by simp only [tithebarnref23_Same.l0]; rw [if_neg (by omega)]) ?_
    exact Ev.now true
  | succ d ih =>
    intro i hd hi
    by_cases h : i < xs.length
    · refine Ev.step (f := fun k => (sameAt k xs[i] xs[i]).bind fun t => if t = true then tithebarnref23_Same.l0 k ((i + 1 : Nat) : Int) a0 a1 a2 a3 a4 a5 xs a0 a1 a2 a3 a4 a5 xs else some false) (fun k => by
        simp only [tithebarnref23_Same.l0]
        rw [if_pos (by omega), if_pos (by omega), if_pos (by omega), rd28_at' h, wrap_succ' hl h]; rfl) ?_
      refine Ev.bind (f := fun k t => if t = true then tithebarnref23_Same.l0 k ((i + 1 : Nat) : Int) a0 a1 a2 a3 a4 a5 xs a0 a1 a2 a3 a4 a5 xs else some false) (hv _ (List.getElem_mem h)) ?_
      exact ih (i + 1) (by omega) (by omega)
    · refine Ev.step (f := fun _ => some true) (fun k => by simp only [tithebarnref23_Same.l0]; rw [if_neg (by omega)]) ?_
      exact Ev.now true
theorem same_ev : ∀ (n : Nat) (q : S28), Gd28 n q → Ev (fun k => sameAt k q q) true
  | 0, _, h => h.elim
  | n + 1, q, h => by
    obtain ⟨_, _, hlen, hk⟩ := h
    refine Ev.step (f := fun k => tithebarnref23_Same.j0 k false q.f0 q.f1.f0 q.f1.f1 q.f1.f2.f0 q.f1.f2.f1 q.f1.f2.f2 q.f2 q.f0 q.f1.f0 q.f1.f1 q.f1.f2.f0 q.f1.f2.f1 q.f1.f2.f2 q.f2) (fun k => by
      simp [sameAt, tithebarnref23_Same.f]) ?_
    refine Ev.step (f := fun k => tithebarnref23_Same.l0 k 0 q.f0 q.f1.f0 q.f1.f1 q.f1.f2.f0 q.f1.f2.f1 q.f1.f2.f2 q.f2 q.f0 q.f1.f0 q.f1.f1 q.f1.f2.f0 q.f1.f2.f1 q.f1.f2.f2 q.f2) (fun k => by
      simp [tithebarnref23_Same.j0]) ?_
    exact same_l0 _ _ _ _ _ _ q.f2 hlen (fun x hx => same_ev n x (hk x hx)) q.f2.length 0 (by omega) (Nat.zero_le _)
end Go.Proofs.YtglcajijmkianaaDoor.A
namespace Go.Proofs.YtglcajijmkianaaDoor.A
open Go.RowKit Go.Proofs.YtglcajijmkianaaDoorW.PrintWords Go.Proofs.YtglcajijmkianaaDoorW.PrintLast Go.Proofs.YtglcajijmkianaaDoorW.PrintMore
set_option linter.unusedVariables false
set_option linter.unusedSimpArgs false

set_option maxRecDepth 100000 in
set_option maxHeartbeats 16000000 in
theorem QueryBack.walk (q : S28) (n : Nat) (hq : Gd28 n q) (hs : szQ 50 q ≤ 8388608) (A : Option Addr) (c : Nat) (w : World) (hG : Globs w) (hC : Kd.C k28 w A q.f2.length q.f2) (hc : q.f2.length ≤ c) :
    Calls Tryd.prog 4 #[.agg #[.int .i64 q.f0, .int .i64 q.f1.f0, .int .i64 q.f1.f1, .bool q.f1.f2.f0, .int .i64 q.f1.f2.f1, .string q.f1.f2.f2, .slice A q.f2.length c]] w fun e w' => e = .returned (.bool true) ∧ Below w.heap.size w w' := by
  have hu28 := Tryd.underlying28
  have hways := show_parse n q hq hs
  obtain ⟨K, hK⟩ := same_ev n q hq
  have hsame := hK K (Nat.le_refl _)
  simp only [sameAt] at hsame
  have HS := Aside0.mk (fun (W : World) (hW : Below w.heap.size w W) (r : ByteArray × Int) (h : showF q = some r) => show.calls q A c r W (hG.below hW) (Kd.C_below hC hW) hc h)
  have HP := Aside0.mk (fun (W : World) (hW : Below w.heap.size w W) (s : ByteArray) (h : parseF s = some (q, 0)) => parse.calls s (q, 0) W (hG.below hW) h)
  have HE := Aside0.mk (fun (W : World) (hW : Below w.heap.size w W) (B : Option Addr) (d : Nat) (hB : Kd.C k28 W B q.f2.length q.f2) (hd : q.f2.length ≤ d) => tithebarnref23_Same.calls K q.f0 q.f1.f0 q.f1.f1 q.f1.f2.f0 q.f1.f2.f1 q.f1.f2.f2 B d q.f2 q.f0 q.f1.f0 q.f1.f1 q.f1.f2.f0 q.f1.f2.f1 q.f1.f2.f2 A c q.f2 true W hB hd (Kd.C_below hC hW) hc hsame)
  have HL := Aside0.mk (fun (W : World) (hW : Below w.heap.size w W) => lives.calls W (hG.below hW))
  clear hC hc hG hq hs hK hsame
  rcases hways with hsh | ⟨s, hsh, hps⟩
  · have HSH := Aside0.mk hsh
    clear hsh HP HE
    go_enter Tryd.func4, Tryd.ntmps4
    go_wp2_with fail
    have K0 := Aside0.mk (blk_new w (Obj.cells (qcells q A c) 28))
    have HB := Aside0.mk (below_alloc (Below.refl w.heap.size w) (Obj.cells (qcells q A c) 28))
    generalize w.alloc _ = W at K0 HB ⊢
    refine (HL.out _ HB.out).mono ?_
    rintro e w1 ⟨rfl, hb1⟩
    have HB1 := Aside0.mk (HB.out.trans (hb1.mono HB.out.size))
    have K1 := Aside0.mk ((hb1.block w.heap.size (blk_lt K0.out)).trans K0.out)
    clear hb1 HB K0
    have c0 := (blk_cell K1.out 0).trans rfl
    have c1 := (blk_cell K1.out 1).trans rfl
    have c2 := (blk_cell K1.out 2).trans rfl
    have c3 := (blk_cell K1.out 3).trans rfl
    have c4 := (blk_cell K1.out 4).trans rfl
    have c5 := (blk_cell K1.out 5).trans rfl
    have c6 := (blk_cell K1.out 6).trans rfl
    go_wp2_with fail
    refine (HS.out _ HB1.out _ HSH.out).mono ?_
    rintro e w2 ⟨rfl, hb2⟩
    have HB2 := Aside0.mk (HB1.out.trans (hb2.mono HB1.out.size))
    clear hb2
    go_wp2_with fail
    go_ret
    exact ⟨rfl, HB2.out⟩
  · have HSH := Aside0.mk hsh
    have HPS := Aside0.mk hps
    clear hsh hps
    go_enter Tryd.func4, Tryd.ntmps4
    go_wp2_with fail
    have K0 := Aside0.mk (blk_new w (Obj.cells (qcells q A c) 28))
    have HB := Aside0.mk (below_alloc (Below.refl w.heap.size w) (Obj.cells (qcells q A c) 28))
    generalize w.alloc _ = W at K0 HB ⊢
    refine (HL.out _ HB.out).mono ?_
    rintro e w1 ⟨rfl, hb1⟩
    have HB1 := Aside0.mk (HB.out.trans (hb1.mono HB.out.size))
    have K1 := Aside0.mk ((hb1.block w.heap.size (blk_lt K0.out)).trans K0.out)
    clear hb1 HB K0
    have c0 := (blk_cell K1.out 0).trans rfl
    have c1 := (blk_cell K1.out 1).trans rfl
    have c2 := (blk_cell K1.out 2).trans rfl
    have c3 := (blk_cell K1.out 3).trans rfl
    have c4 := (blk_cell K1.out 4).trans rfl
    have c5 := (blk_cell K1.out 5).trans rfl
    have c6 := (blk_cell K1.out 6).trans rfl
    go_wp2_with fail
    refine (HS.out _ HB1.out _ HSH.out).mono ?_
    rintro e w2 ⟨rfl, hb2⟩
    have HB2 := Aside0.mk (HB1.out.trans (hb2.mono HB1.out.size))
    have K2 := Aside0.mk ((hb2.block w.heap.size (blk_lt K1.out)).trans K1.out)
    clear hb2 c0 c1 c2 c3 c4 c5 c6 HB1 K1
    go_wp2_with fail
    refine (HP.out _ HB2.out s HPS.out).mono ?_
    rintro e w3 ⟨A3, c3, rfl, hc3, hC3, hb3⟩
    simp only at hc3 hC3 ⊢
    have HB3 := Aside0.mk ((HB2.out.trans (hb3.mono HB2.out.size)).trans ((below_alloc (Below.refl w3.heap.size w3) (Obj.cells (qcells q A3 c3) 28)).mono (HB2.out.trans (hb3.mono HB2.out.size)).size))
    have K3 := Aside0.mk (((below_alloc (Below.refl w3.heap.size w3) (Obj.cells (qcells q A3 c3) 28)).block w.heap.size (Nat.lt_of_lt_of_le (blk_lt K2.out) hb3.size)).trans ((hb3.block w.heap.size (blk_lt K2.out)).trans K2.out))
    have N3 := Aside0.mk (blk_new w3 (Obj.cells (qcells q A3 c3) 28))
    have HC3 := Aside0.mk (Kd.C_below hC3 (below_alloc (Below.refl _ _) (Obj.cells (qcells q A3 c3) 28)))
    have HL3 := Aside0.mk hc3
    clear hb3 hC3 hc3 HB2 K2
    have d0 : (w3.alloc (Obj.cells #[.int .i64 q.f0, .int .i64 q.f1.f0, .int .i64 q.f1.f1, .bool q.f1.f2.f0, .int .i64 q.f1.f2.f1, .string q.f1.f2.f2, .slice A3 q.f2.length c3] 28)).cell? ⟨w.heap.size, 0, none⟩ = some (.int .i64 q.f0) := (blk_cell K3.out 0).trans rfl
    have d1 : (w3.alloc (Obj.cells #[.int .i64 q.f0, .int .i64 q.f1.f0, .int .i64 q.f1.f1, .bool q.f1.f2.f0, .int .i64 q.f1.f2.f1, .string q.f1.f2.f2, .slice A3 q.f2.length c3] 28)).cell? ⟨w.heap.size, 1, none⟩ = some (.int .i64 q.f1.f0) := (blk_cell K3.out 1).trans rfl
    have d2 : (w3.alloc (Obj.cells #[.int .i64 q.f0, .int .i64 q.f1.f0, .int .i64 q.f1.f1, .bool q.f1.f2.f0, .int .i64 q.f1.f2.f1, .string q.f1.f2.f2, .slice A3 q.f2.length c3] 28)).cell? ⟨w.heap.size, 2, none⟩ = some (.int .i64 q.f1.f1) := (blk_cell K3.out 2).trans rfl
    have d3 : (w3.alloc (Obj.cells #[.int .i64 q.f0, .int .i64 q.f1.f0, .int .i64 q.f1.f1, .bool q.f1.f2.f0, .int .i64 q.f1.f2.f1, .string q.f1.f2.f2, .slice A3 q.f2.length c3] 28)).cell? ⟨w.heap.size, 3, none⟩ = some (.bool q.f1.f2.f0) := (blk_cell K3.out 3).trans rfl
    have d4 : (w3.alloc (Obj.cells #[.int .i64 q.f0, .int .i64 q.f1.f0, .int .i64 q.f1.f1, .bool q.f1.f2.f0, .int .i64 q.f1.f2.f1, .string q.f1.f2.f2, .slice A3 q.f2.length c3] 28)).cell? ⟨w.heap.size, 4, none⟩ = some (.int .i64 q.f1.f2.f1) := (blk_cell K3.out 4).trans rfl
    have d5 : (w3.alloc (Obj.cells #[.int .i64 q.f0, .int .i64 q.f1.f0, .int .i64 q.f1.f1, .bool q.f1.f2.f0, .int .i64 q.f1.f2.f1, .string q.f1.f2.f2, .slice A3 q.f2.length c3] 28)).cell? ⟨w.heap.size, 5, none⟩ = some (.string q.f1.f2.f2) := (blk_cell K3.out 5).trans rfl
    have d6 : (w3.alloc (Obj.cells #[.int .i64 q.f0, .int .i64 q.f1.f0, .int .i64 q.f1.f1, .bool q.f1.f2.f0, .int .i64 q.f1.f2.f1, .string q.f1.f2.f2, .slice A3 q.f2.length c3] 28)).cell? ⟨w.heap.size, 6, none⟩ = some (.slice A q.f2.length c) := (blk_cell K3.out 6).trans rfl
    go_wp2_with fail
    refine (HE.out _ HB3.out A3 c3 HC3.out HL3.out).mono ?_
    rintro e w4 ⟨rfl, hb4⟩
    have HB4 := Aside0.mk (HB3.out.trans (hb4.mono HB3.out.size))
    clear hb4
    go_wp2_with fail
    go_ret
    exact ⟨rfl, HB4.out⟩
end Go.Proofs.YtglcajijmkianaaDoor.A
namespace Go.Proofs.YtglcajijmkianaaDoor.A
open Go.RowKit Go.Proofs.YtglcajijmkianaaDoorW.PrintWords Go.Proofs.YtglcajijmkianaaDoorW.PrintLast Go.Proofs.YtglcajijmkianaaDoorW.PrintMore
open Go.Shelf Go.Lib Go.Sort
set_option linter.unusedVariables false
set_option linter.unusedSimpArgs false

theorem sum_bulk {H : Type} (f : S28 → Nat) : ∀ (ys : List S28) (ds : List (DataW H)), ds.length = ys.length → (∀ (i : Nat) y z, ys[i]? = some y → ds[i]? = some z → f y ≤ Rows.uptoBulk z) → (ys.map f).sum ≤ Rows.uptoBulkAll ds
  | [], _, _, _ => by simp
  | y :: ys, [], h, _ => by simp at h
  | y :: ys, d :: ds, h, hq => by
    have ih := sum_bulk f ys ds (by simpa using h) (fun i y z a b => hq (i + 1) y z (by simpa using a) (by simpa using b))
    have h0 := hq 0 y d rfl rfl
    simp only [List.map_cons, List.sum_cons, Rows.uptoBulkAll]
    omega
theorem sz_bulk {H : Type} : ∀ (m n : Nat) (y : S28) (x : DataW H), Q28 n y x → szQ m y ≤ Rows.uptoBulk x
  | _, 0, y, x, h => h.elim
  | 0, n + 1, y, x, h => by
    obtain ⟨_, x1, x2, _, _, rfl⟩ := h
    simp only [szQ, Rows.uptoBulk]
    omega
  | m + 1, n + 1, y, x, h => by
    obtain ⟨_, x1, x2, _, hk, rfl⟩ := h
    rcases hk with ⟨e, rfl⟩ | ⟨ds, rest, rfl, hl, _, hq⟩
    · simp only [szQ, Rows.uptoBulk, Rows.uptoBulkAll, e, List.map_nil, List.sum_nil]
      omega
    · have := sum_bulk (szQ m) y.f2 ds hl (fun i y z a b => sz_bulk m n y z (hq i y z a b))
      simp only [szQ, Rows.uptoBulk, Rows.uptoBulkAll]
      omega
theorem small_bulk {H : Type} {ds : List (DataW H)} (h : Rows.uptoSmall H ds = true) : Rows.uptoBulkAll ds ≤ 1048576 := of_decide_eq_true h
end Go.Proofs.YtglcajijmkianaaDoor.A
