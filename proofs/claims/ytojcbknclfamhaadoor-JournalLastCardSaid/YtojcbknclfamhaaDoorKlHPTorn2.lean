/- A deed's bytes as the program writes them; frames written and read again, whole or torn: plain. -/
import Derived.Test.YtojcbknclfamhaaDoorKlAx0
import Derived.Test.YtojcbknclfamhaaDoorKlAx10
import Derived.Test.YtojcbknclfamhaaDoorKlAx11
import Derived.Test.YtojcbknclfamhaaDoorKlAx13
import Derived.Test.YtojcbknclfamhaaDoorKlAx7
import Derived.Test.YtojcbknclfamhaaDoorKlAx9
import Derived.Test.YtojcbknclfamhaaDoorKlHPTorn1
import Derived.Test.YtojcbknclfamhaaDoorKlHFNext
namespace Go.Proofs.YtojcbknclfamhaaDoor.A
open Go.RowKit Go.Proofs.YtojcbknclfamhaaDoorW.PrintWords Go.Proofs.YtojcbknclfamhaaDoorW.PrintLast Go.Proofs.YtojcbknclfamhaaDoorW.PrintMore
set_option linter.unusedVariables false
set_option linter.unusedSimpArgs false
def RowIs : List S50 → List S45 → Prop
  | c :: cs, v :: vs => IsV c v ∧ RowIs cs vs
  | _, [] => True
  | [], _ :: _ => False
theorem RowIs.ok : ∀ (cs : List S50) (vs : List S45), RowIs cs vs → (∀ v ∈ vs, In64 v) → RowOk cs vs
  | c :: cs, v :: vs, h, h6 => ⟨h.1, h6 v (List.mem_cons_self ..), RowIs.ok cs vs h.2 (fun x hx => h6 x (List.mem_cons_of_mem _ hx))⟩
  | [], [], _, _ => trivial
  | _ :: _, [], _, _ => trivial
  | [], _ :: _, h, _ => h.elim
theorem rdCol (l : List S50) (i : Nat) (h : i < l.length) : rd_T50 l (i : Int) = l[i] := by simp [rd_T50, h]
theorem rdVal (l : List S45) (i : Nat) (h : i < l.length) : rd_T45 l (i : Int) = l[i] := by simp [rd_T45, h]
theorem wrap_s (i : Nat) (h : i < 1000000000) : wrap64 ((i : Int) + 1) = ((i + 1 : Nat) : Int) := by unfold wrap64; omega
theorem fits_l (row : List S45) (cols : List S50) (n : Nat) (h1 : row.length = n) (h2 : cols.length = n) (h6 : n ≤ 6) : ∀ d i k, i + d = n → d < k →
    ∃ e, kinds_Fits.l0 k row cols (n : Int) (i : Int) = some e ∧ (e = 0 → RowIs (cols.drop i) (row.drop i)) := by
  intro d
  induction d with
  | zero =>
    intro i k hi hk
    obtain ⟨k, rfl⟩ : ∃ m, k = m + 1 := ⟨k - 1, by omega⟩
    rw [kinds_Fits.l0, if_neg (by omega)]
    refine ⟨0, rfl, fun _ => ?_⟩
    rw [List.drop_of_length_le (show row.length ≤ i by omega), List.drop_of_length_le (show cols.length ≤ i by omega)]
    trivial
  | succ d ih =>
    intro i k hi hk
    obtain ⟨k, rfl⟩ : ∃ m, k = m + 1 := ⟨k - 1, by omega⟩
    have hir : i < row.length := by omega
    have hic : i < cols.length := by omega
    rw [kinds_Fits.l0, if_pos (by omega), if_pos (by omega), if_pos (by omega), if_pos (by omega), rdCol cols i hic, rdVal row i hir, wrap_s i (by omega)]
    obtain ⟨b, hb, hb2⟩ := is_f cols[i] row[i]
    rw [hb]
    simp only [Option.bind_some]
    cases b with
    | false => rw [if_neg (by decide)]; exact ⟨6, rfl, fun h => absurd h (by decide)⟩
    | true =>
      rw [if_pos rfl]
      obtain ⟨e, he, he2⟩ := ih (i + 1) k (by omega) (by omega)
      refine ⟨e, he, fun h0 => ?_⟩
      rw [List.drop_eq_getElem_cons hir, List.drop_eq_getElem_cons hic]
      exact ⟨hb2 rfl, he2 h0⟩
theorem fits_f (k : Nat) (l : List S50) (g : Bool) (row : List S45) (hk : 10 < k) :
    ∃ e, deeds_fits.f k l g row = some e ∧ (e = 0 → rightC l = true ∧ row.length = (if g = true then 1 else l.length) ∧ RowIs l row) := by
  unfold deeds_fits.f kinds_Right.f
  simp only [Option.bind_some]
  by_cases hr : rightC l = true
  · rw [if_pos hr]
    have hl := right_len hr
    by_cases hg : g = true
    · rw [if_pos hg, if_pos hg]
      by_cases h1 : row.length = 1
      · rw [if_pos (by omega), if_pos (by omega)]
        unfold kinds_Key.f kinds_Right.f
        simp only [Option.bind_some]
        rw [if_pos hr, if_pos (by omega)]
        obtain ⟨v, rfl⟩ : ∃ v, row = [v] := by
          match row, h1 with
          | [v], _ => exact ⟨v, rfl⟩
        obtain ⟨c, cs, rfl⟩ : ∃ c cs, l = c :: cs := by
          match l, hl with
          | c :: cs, _ => exact ⟨c, cs, rfl⟩
        obtain ⟨b, hb, hb2⟩ := is_f c v
        rw [show rd_T50 (c :: cs) 0 = c from rfl, show rd_T45 [v] 0 = v from rfl, hb]
        simp only [Option.bind_some]
        cases b with
        | false => rw [if_neg (by decide)]; exact ⟨6, rfl, fun h => absurd h (by decide)⟩
        | true =>
          rw [if_pos rfl]
          refine ⟨0, rfl, fun _ => ⟨hr, rfl, hb2 rfl, ?_⟩⟩
          cases cs <;> trivial
      · rw [if_neg (by omega)]
        exact ⟨7, rfl, fun h => absurd h (by decide)⟩
    · rw [if_neg hg, if_neg hg]
      unfold kinds_Fits.f kinds_Right.f
      simp only [Option.bind_some]
      rw [if_pos hr]
      by_cases h1 : l.length = row.length
      · rw [if_pos (by omega)]
        obtain ⟨e, he, he2⟩ := fits_l row l l.length h1.symm rfl hl.2 l.length 0 k (by omega) (by omega)
        rw [show ((0 : Nat) : Int) = 0 from rfl] at he
        rw [he]
        exact ⟨e, rfl, fun h => ⟨hr, h1.symm, he2 h⟩⟩
      · rw [if_neg (by omega)]
        exact ⟨7, rfl, fun h => absurd h (by decide)⟩
  · rw [if_neg hr]
    exact ⟨4, rfl, fun h => absurd h (by decide)⟩
theorem write_l (cols : List S50) (row : List S45) (hl : row.length ≤ cols.length) (h6 : row.length ≤ 6) : ∀ d i k (acc : List Int), i + d = row.length → d + 10 < k → RowOk (cols.drop i) (row.drop i) → acc.length + 74 * d ≤ 1000000 →
    deeds_Write.l0 k cols acc row (row.length : Int) (i : Int) = some (strOfNums (acc ++ rowB (cols.drop i) (row.drop i)), 0) := by
  intro d
  induction d with
  | zero =>
    intro i k acc hi hk hok ha
    obtain ⟨k, rfl⟩ : ∃ m, k = m + 1 := ⟨k - 1, by omega⟩
    rw [deeds_Write.l0, if_neg (by omega), List.drop_of_length_le (show row.length ≤ i by omega), rowB_nil, List.append_nil]
  | succ d ih =>
    intro i k acc hi hk hok ha
    obtain ⟨k, rfl⟩ : ∃ m, k = m + 1 := ⟨k - 1, by omega⟩
    have hir : i < row.length := by omega
    have hic : i < cols.length := by omega
    rw [List.drop_eq_getElem_cons hir, List.drop_eq_getElem_cons hic] at hok ⊢
    rw [deeds_Write.l0, if_pos (by omega), if_pos (by omega), if_pos (by omega), if_pos (by omega), rdCol cols i hic, rdVal row i hir, wrap_s i (by omega), put_f3 k acc cols[i] row[i] hok.1 hok.2.1 (by omega) (by omega)]
    simp only [Option.bind_some]
    have hvl := valB_length cols[i] row[i] hok.1
    rw [ih (i + 1) k _ (by omega) (by omega) hok.2.2 (by rw [List.length_append]; omega), rowB, List.append_assoc]
theorem dwrite_f (k : Nat) (l : List S50) (g : Bool) (row : List S45) (hk : 20 < k) (h6 : ∀ v ∈ row, In64 v) :
    ∃ t e, deeds_Write.f k l g row = some (t, e) ∧ (e = 0 → DeedOk l ⟨g, row⟩ ∧ t = deedT l ⟨g, row⟩) := by
  unfold deeds_Write.f
  obtain ⟨e, he, he2⟩ := fits_f k l g row (by omega)
  rw [he]
  simp only [Option.bind_some]
  by_cases h0 : e = 0
  · rw [if_pos h0, flag_f [] g (by simp)]
    simp only [Option.bind_some]
    obtain ⟨hr, hn, hi⟩ := he2 h0
    have hl := right_len hr
    have hok := RowIs.ok l row hi h6
    have hle : row.length ≤ l.length := by rw [hn]; split <;> omega
    have hw := write_l l row hle (by omega) row.length 0 k ([] ++ [flagB g]) (by omega) (by omega) hok (by simp; omega)
    rw [show ((0 : Nat) : Int) = 0 from rfl] at hw
    rw [hw]
    exact ⟨_, _, rfl, fun _ => ⟨⟨hr, hn, hok⟩, rfl⟩⟩
  · rw [if_neg h0]
    exact ⟨_, _, rfl, fun h => absurd h h0⟩
def le4 (n : Int) : List Int := [n % 256, n / 256 % 256, n / 65536 % 256, n / 16777216 % 256]
theorem le4_isB (n : Int) : IsB (le4 n) := fun x hx => by
  simp only [le4, List.mem_cons, List.not_mem_nil, or_false] at hx
  rcases hx with rfl | rfl | rfl | rfl <;> omega
theorem fput_f (k : Nat) (acc : List Int) (n : Int) (hk : 5 < k) (ha : acc.length ≤ 1000000000) : frame_put.f k acc n = some (acc ++ le4 n) := by
  obtain ⟨k, rfl⟩ : ∃ m, k = m + 5 := ⟨k - 5, by omega⟩
  have w0 : wrap64 (0 + 1) = 1 := by unfold wrap64; omega
  have w1 : wrap64 (1 + 1) = 2 := by unfold wrap64; omega
  have w2 : wrap64 (2 + 1) = 3 := by unfold wrap64; omega
  have w3 : wrap64 (3 + 1) = 4 := by unfold wrap64; omega
  unfold frame_put.f
  rw [frame_put.l0, if_pos (by decide), if_pos (by omega), w0, frame_put.l0, if_pos (by decide), if_pos (by simp; omega), w1, frame_put.l0, if_pos (by decide), if_pos (by simp; omega), w2, frame_put.l0, if_pos (by decide), if_pos (by simp; omega), w3, frame_put.l0, if_neg (by decide)]
  have e2 : n / 256 / 256 = n / 65536 := by omega
  have e3 : n / 256 / 256 / 256 = n / 16777216 := by omega
  rw [e3, e2]
  simp [le4]
def sumT (t : ByteArray) : Int := Go.bits .xor .u32 IntKind.u32.max (sumF t.data.toList)
theorem sumT_range (t : ByteArray) : 0 ≤ sumT t ∧ sumT t < 4294967296 := u32x_range _ _ (by decide) (sum_range _ _ (by decide))
def frameB (t : ByteArray) : List Int := le4 (t.size : Int) ++ (bytesOf t ++ le4 (sumT t))
theorem frameB_length (t : ByteArray) : (frameB t).length = t.size + 8 := by simp [frameB, le4, bytesOf_length]
theorem frameB_isB (t : ByteArray) : IsB (frameB t) := (le4_isB _).app ((IsB.bytes t).app (le4_isB _))
theorem fwrite_f (k : Nat) (t : ByteArray) (hk : 5 < k) (hs : t.size ≤ 1000000) : frame_Write.f k t = some (strOfNums (frameB t)) := by
  unfold frame_Write.f
  have e : (t.size : Int) % 4294967296 = t.size := by omega
  rw [e, fput_f k [] _ hk (by simp)]
  simp only [Option.bind_some, List.nil_append]
  rw [if_pos (by show 4 + t.size < _; omega)]
  unfold frame_Sum.f
  rw [if_pos (by omega)]
  simp only [Option.bind_some]
  rw [fput_f k _ _ hk (by rw [List.length_append, bytesOf_length, show (le4 (t.size : Int)).length = 4 from rfl]; omega), List.append_assoc]
  rfl
theorem bt_bytes (s : ByteArray) (k : Nat) : bt s (k : Int) = (bytesOf s).getD k 0 := by
  rw [bt_getD]
  unfold bytesOf
  simp only [List.getD, List.getElem?_map]
  cases s.data.toList[k]? <;> rfl
theorem or_u32 (x c : Int) (h0 : 0 ≤ x) (h1 : x < 16777216) (h2 : 0 ≤ c) (h3 : c < 256) : Go.bits .or .u32 (x * 256) c = x * 256 + c := by
  exact bits_join .u32 32 (by decide) wraps_u32 8 _ _ (by omega) (by omega) (by simp; omega) h2 (by simpa using h3) (by simp; omega)
theorem get_f (s : ByteArray) (n : Int) (z : List Int) (h0 : 0 ≤ n) (h1 : n < 4294967296) (h : bytesOf s = le4 n ++ z) : frame_get.f 10 s = some n := by
  have b0 : bt s 0 = n % 256 := by have := bt_bytes s 0; rw [h] at this; exact this
  have b1 : bt s 1 = n / 256 % 256 := by have := bt_bytes s 1; rw [h] at this; exact this
  have b2 : bt s 2 = n / 65536 % 256 := by have := bt_bytes s 2; rw [h] at this; exact this
  have b3 : bt s 3 = n / 16777216 % 256 := by have := bt_bytes s 3; rw [h] at this; exact this
  have hsz : 4 ≤ s.size := by rw [← bytesOf_length, h, List.length_append]; simp [le4]
  have w3 : wrap64 (3 - 1) = 2 := by unfold wrap64; omega
  have w2 : wrap64 (2 - 1) = 1 := by unfold wrap64; omega
  have w1 : wrap64 (1 - 1) = 0 := by unfold wrap64; omega
  have w0 : wrap64 (0 - 1) = -1 := by unfold wrap64; omega
  have s3 : Go.bits .or .u32 (0 * 256 % 4294967296) (n / 16777216 % 256 % 4294967296) = n / 16777216 := by
    rw [show (0 : Int) * 256 % 4294967296 = 0 * 256 from rfl, show n / 16777216 % 256 % 4294967296 = n / 16777216 % 256 by omega, or_u32 0 _ (by omega) (by omega) (by omega) (by omega)]; omega
  have s2 : Go.bits .or .u32 (n / 16777216 * 256 % 4294967296) (n / 65536 % 256 % 4294967296) = n / 65536 := by
    rw [show n / 16777216 * 256 % 4294967296 = n / 16777216 * 256 by omega, show n / 65536 % 256 % 4294967296 = n / 65536 % 256 by omega, or_u32 _ _ (by omega) (by omega) (by omega) (by omega)]; omega
  have s1 : Go.bits .or .u32 (n / 65536 * 256 % 4294967296) (n / 256 % 256 % 4294967296) = n / 256 := by
    rw [show n / 65536 * 256 % 4294967296 = n / 65536 * 256 by omega, show n / 256 % 256 % 4294967296 = n / 256 % 256 by omega, or_u32 _ _ (by omega) (by omega) (by omega) (by omega)]; omega
  have s0 : Go.bits .or .u32 (n / 256 * 256 % 4294967296) (n % 256 % 4294967296) = n := by
    rw [show n / 256 * 256 % 4294967296 = n / 256 * 256 by omega, show n % 256 % 4294967296 = n % 256 by omega, or_u32 _ _ (by omega) (by omega) (by omega) (by omega)]; omega
  unfold frame_get.f
  rw [frame_get.l0, if_pos (by decide), if_pos (by decide), if_pos (by omega), b3, s3, w3]
  rw [frame_get.l0, if_pos (by decide), if_pos (by decide), if_pos (by omega), b2, s2, w2]
  rw [frame_get.l0, if_pos (by decide), if_pos (by decide), if_pos (by omega), b1, s1, w1]
  rw [frame_get.l0, if_pos (by decide), if_pos (by decide), if_pos (by omega), b0, s0, w0]
  rw [frame_get.l0, if_neg (by decide)]
theorem bytesOf_mid (s : ByteArray) (a b : Nat) : bytesOf (s.extract a b) = ((bytesOf s).take b).drop a := by
  unfold bytesOf
  rw [ext_list, List.map_drop, List.map_take]
theorem next_whole (s : ByteArray) (t : ByteArray) (z : List Int) (ht : t.size ≤ 1000000) (hs : s.size ≤ 1000000000) (h : bytesOf s = frameB t ++ z) : ∃ r, frame_next.f s = some (t, r, true, 0) ∧ bytesOf r = z := by
  have hlen : s.size = t.size + 8 + z.length := by rw [← bytesOf_length, h, List.length_append, frameB_length]
  have hr := sumT_range t
  have h4 : (le4 (t.size : Int)).length = 4 := rfl
  have h4' : (le4 (sumT t)).length = 4 := rfl
  have hb : bytesOf s = le4 (t.size : Int) ++ (bytesOf t ++ (le4 (sumT t) ++ z)) := by rw [h, frameB, List.append_assoc, List.append_assoc]
  have et : textAt s t.size = t := bytesOf_inj (by
    rw [textAt, bytesOf_mid, hb, List.take_append, List.take_of_length_le (by omega), List.drop_append, List.drop_of_length_le (show (le4 (t.size : Int)).length ≤ 4 from Nat.le_refl _)]
    rw [h4, show 4 - 4 = 0 from rfl, show 4 + t.size - 4 = t.size by omega, List.drop_zero, List.nil_append, List.take_left' (bytesOf_length t)])
  have er : bytesOf (restAt s t.size) = le4 (sumT t) ++ z := by
    rw [restAt, bytesOf_drop, hb, ← List.append_assoc, List.drop_left' (by rw [List.length_append, bytesOf_length, h4])]
  unfold frame_next.f
  rw [if_neg (by omega), get_f s (t.size : Int) _ (by omega) (by omega) hb]
  simp only [Option.bind_some]
  rw [if_neg (by omega), if_neg (by omega), Int.toNat_natCast, if_neg (by omega), if_neg (by omega), get_f _ (sumT t) z hr.1 hr.2 er, et]
  unfold frame_Sum.f
  rw [if_pos (by omega)]
  simp only [Option.bind_some]
  rw [if_pos (show sumT t = Go.bits .xor .u32 IntKind.u32.max (sumF t.data.toList) from rfl)]
  refine ⟨_, rfl, ?_⟩
  rw [bytesOf_drop, er, List.drop_left' h4']
theorem next_part (s : ByteArray) (t : ByteArray) (j : Nat) (ht : t.size ≤ 1000000) (hj : j < (frameB t).length) (h : bytesOf s = (frameB t).take j) : frame_next.f s = some (⟨#[]⟩, s, false, 0) := by
  have hlen : s.size = j := by rw [← bytesOf_length, h, List.length_take]; omega
  rw [frameB_length] at hj
  unfold frame_next.f
  by_cases h4 : s.size < 4
  · rw [if_pos h4]
  · rw [if_neg h4]
    have hb : bytesOf s = le4 (t.size : Int) ++ ((bytesOf t ++ le4 (sumT t)).take (j - 4)) := by
      rw [h, frameB, List.take_append, List.take_of_length_le (by show 4 ≤ j; omega)]
      rfl
    rw [get_f s (t.size : Int) _ (by omega) (by omega) hb]
    simp only [Option.bind_some]
    rw [if_neg (by omega), if_neg (by omega), Int.toNat_natCast, if_pos (by omega)]
theorem next_none (s : ByteArray) (h : bytesOf s = []) : frame_next.f s = some (⟨#[]⟩, s, false, 0) := by
  have : s.size = 0 := by rw [← bytesOf_length, h]; rfl
  unfold frame_next.f
  rw [if_pos (by omega)]
def segB (l : List S50) (ds : List S36) : List Int := ds.flatMap fun d => frameB (deedT l d)
def whole (l : List S50) : List S36 → Nat → Nat
  | [], _ => 0
  | d :: ds, j => if (frameB (deedT l d)).length ≤ j then whole l ds (j - (frameB (deedT l d)).length) + 1 else 0
theorem segB_cons (l : List S50) (d : S36) (ds : List S36) : segB l (d :: ds) = frameB (deedT l d) ++ segB l ds := rfl
theorem scan_l (l : List S50) (x0 : ByteArray) : ∀ (ds : List S36) (k : Nat) (acc : List ByteArray) (s : ByteArray) (j : Nat), (∀ d ∈ ds, DeedOk l d) → ds.length < k → s.size ≤ 1000000000 → acc.length + ds.length ≤ 1000000 → bytesOf s = (segB l ds).take j →
    ∃ n, frame_Scan.l0 k x0 acc s = some (acc ++ (ds.take (whole l ds j)).map (deedT l), n, 0)
  | [], k, acc, s, j, _, hk, hs, ha, h => by
    obtain ⟨k, rfl⟩ : ∃ m, k = m + 1 := ⟨k - 1, by omega⟩
    rw [frame_Scan.l0, next_none s (by rw [h]; simp [segB])]
    simp only [Option.bind_some]
    rw [if_pos trivial, if_neg (by decide)]
    exact ⟨wrap64 ((x0.size : Int) - (s.size : Int)), by simp⟩
  | d :: ds, k, acc, s, j, hok, hk, hs, ha, h => by
    obtain ⟨k, rfl⟩ : ∃ m, k = m + 1 := ⟨k - 1, by simp at hk; omega⟩
    have hd := deedT_size l d (hok d (List.mem_cons_self ..))
    rw [segB_cons] at h
    rw [frame_Scan.l0]
    by_cases hj : (frameB (deedT l d)).length ≤ j
    · rw [List.take_append, List.take_of_length_le hj] at h
      obtain ⟨r, hr, hr2⟩ := next_whole s (deedT l d) _ (by omega) hs h
      rw [hr]
      simp only [Option.bind_some]
      have hrs : r.size ≤ s.size := by rw [← bytesOf_length, ← bytesOf_length, hr2, h, List.length_append]; omega
      simp only [List.length_cons] at hk ha
      rw [if_pos trivial, if_pos trivial, if_pos (by omega), whole, if_pos hj]
      obtain ⟨n, hn⟩ := scan_l l x0 ds k (acc ++ [deedT l d]) r (j - (frameB (deedT l d)).length) (fun x hx => hok x (List.mem_cons_of_mem _ hx)) (by omega) (by omega) (by rw [List.length_append, List.length_singleton]; omega) hr2
      refine ⟨n, ?_⟩
      rw [hn, List.take_succ_cons, List.map_cons, List.append_assoc]
      rfl
    · have hj' : j < (frameB (deedT l d)).length := by omega
      rw [List.take_append_of_le_length (by omega)] at h
      rw [next_part s (deedT l d) j (by omega) hj' h]
      simp only [Option.bind_some]
      rw [if_pos trivial, if_neg (by decide), whole, if_neg hj]
      exact ⟨wrap64 ((x0.size : Int) - (s.size : Int)), by simp⟩
theorem jread_l (l : List S50) (ds : List S36) (hok : ∀ d ∈ ds, DeedOk l d) (hl : ds.length ≤ 1000000) : ∀ d i k (acc : List S36), i + d = ds.length → d < k → acc.length + d ≤ 1000000 →
    journal_Read.l0 k l acc (ds.map (deedT l)) (ds.length : Int) (i : Int) = some (acc ++ ds.drop i, 0) := by
  intro d
  induction d with
  | zero =>
    intro i k acc hi hk ha
    obtain ⟨k, rfl⟩ : ∃ m, k = m + 1 := ⟨k - 1, by omega⟩
    rw [journal_Read.l0, if_neg (by omega), List.drop_of_length_le (by omega), List.append_nil]
  | succ d ih =>
    intro i k acc hi hk ha
    obtain ⟨k, rfl⟩ : ∃ m, k = m + 1 := ⟨k - 1, by omega⟩
    have hil : i < ds.length := by omega
    have hrd : rdOf ByteArray.empty (ds.map (deedT l)) (i : Int) = deedT l ds[i] := by simp [rdOf, hil]
    rw [journal_Read.l0, if_pos (by omega), if_pos (by omega), if_pos (by rw [List.length_map]; omega), hrd, read_f l ds[i] (hok _ (List.getElem_mem hil)), wrap_s i (by omega)]
    simp only [Option.bind_some]
    rw [if_pos trivial, if_pos (by omega), ih (i + 1) k _ (by omega) (by omega) (by rw [List.length_append, List.length_singleton]; omega), List.drop_eq_getElem_cons hil, List.append_assoc]
    rfl
theorem whole_le (l : List S50) : ∀ (ds : List S36) (j : Nat), whole l ds j ≤ ds.length
  | [], j => Nat.le_refl _
  | d :: ds, j => by
    rw [whole]
    split
    · have := whole_le l ds (j - (frameB (deedT l d)).length); rw [List.length_cons]; omega
    · exact Nat.zero_le _
theorem jread_f (k : Nat) (l : List S50) (ds : List S36) (s : ByteArray) (j : Nat) (hr : rightC l = true) (hok : ∀ d ∈ ds, DeedOk l d) (hl : ds.length ≤ 1000000) (hk : ds.length < k) (hs : s.size ≤ 1000000000) (h : bytesOf s = (segB l ds).take j) :
    journal_Read.f k l s = some (ds.take (whole l ds j), 0) := by
  unfold journal_Read.f kinds_Right.f
  simp only [Option.bind_some]
  rw [if_pos hr]
  unfold frame_Scan.f
  obtain ⟨n, hn⟩ := scan_l l s ds k [] s j hok hk hs (by simpa using hl) h
  rw [hn]
  simp only [Option.bind_some, List.nil_append]
  have hw := whole_le l ds j
  have hlt : (ds.take (whole l ds j)).length = whole l ds j := by rw [List.length_take]; omega
  have := jread_l l (ds.take (whole l ds j)) (fun d hd => hok d (List.mem_of_mem_take hd)) (by omega) (whole l ds j) 0 k [] (by omega) (by omega) (by simp; omega)
  rw [if_pos trivial, List.length_map, hlt]
  rw [hlt] at this
  rw [show ((0 : Nat) : Int) = 0 from rfl] at this
  rw [this, List.nil_append, List.drop_zero]
theorem jread_no (k : Nat) (l : List S50) (s : ByteArray) (hr : ¬ rightC l = true) : journal_Read.f k l s = some ([], 4) := by
  unfold journal_Read.f kinds_Right.f
  simp only [Option.bind_some]
  rw [if_neg hr]
end Go.Proofs.YtojcbknclfamhaaDoor.A
