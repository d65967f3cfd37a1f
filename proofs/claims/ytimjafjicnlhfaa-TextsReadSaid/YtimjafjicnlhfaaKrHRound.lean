/- What texts.With writes is what texts.Read reads, and nothing else is: numbers, texts, packed numbers, words chosen. Plain. -/
import Derived.Test.YtimjafjicnlhfaaKrAx0
import Derived.Test.YtimjafjicnlhfaaKrHWith
import Derived.Test.YtimjafjicnlhfaaKrHRead
import Derived.Test.YtimjafjicnlhfaaKrHDictP
namespace Go.Proofs.Ytimjafjicnlhfaa.A
open Go.RowKit Go.Proofs.YtimjafjicnlhfaaW.PrintWords Go.Proofs.YtimjafjicnlhfaaW.PrintLast Go.Proofs.YtimjafjicnlhfaaW.PrintMore
set_option linter.unusedVariables false
set_option linter.unusedSimpArgs false
theorem bytes_bk (s : ByteArray) : strOfNums (bytesOf s) = s := by
  apply ba_ext
  rw [strOfNums_data, bytesOf, List.map_map]
  conv => rhs; rw [← List.map_id s.data.toList]
  apply List.map_congr_left
  intro b _
  simp
theorem foldB_shift : ∀ (l : List UInt8) (x y : Int), foldB (x + y) l = foldB x l + y * 256 ^ l.length
  | [], x, y => by simp [foldB]
  | c :: l, x, y => by
    have h := foldB_shift l (x * 256 + c.toNat) (y * 256)
    have h1 : foldB (x + y) (c :: l) = foldB ((x * 256 + c.toNat) + y * 256) l := by
      show foldB ((x + y) * 256 + c.toNat) l = _
      congr 1
      rw [Int.add_mul]; omega
    rw [h1, h]
    show foldB (x * 256 + c.toNat) l + y * 256 * 256 ^ l.length = foldB (x * 256 + c.toNat) l + y * 256 ^ (l.length + 1)
    rw [Int.pow_succ, Int.mul_comm (256 ^ l.length) 256, Int.mul_assoc]
theorem foldB_cons (x : Int) (c : UInt8) (l : List UInt8) : foldB x (c :: l) = foldB (x * 256 + c.toNat) l := rfl
theorem pow_256 (n : Nat) : (2 : Int) ^ (8 * n) = 256 ^ n := by
  rw [Int.pow_mul]; rfl
theorem bigB_foldB : ∀ (l : List UInt8) (x : Int), 0 ≤ x → bigB (foldB x l) l.length = l.map (fun c => (c.toNat : Int))
  | [], x, h => rfl
  | c :: l, x, h => by
    have hc := byte_range c
    have hf := foldB_shift l 0 (x * 256 + c.toNat)
    have hl := foldB_le l 0 (by omega)
    rw [Int.zero_add] at hf hl
    rw [List.length_cons, foldB_cons, List.map_cons, bigB, bigB_foldB l _ (by omega)]
    congr 1
    rw [pow_256, hf, Int.add_mul_ediv_right _ _ (by have : (0 : Int) < 256 ^ l.length := Int.pow_pos (by omega); omega), Int.ediv_eq_zero_of_lt hl.1 (by rw [Int.one_mul] at hl; exact hl.2)]
    omega
theorem foldB_bigB : ∀ (m : List UInt8) (x y : Int), m.map (fun c => (c.toNat : Int)) = bigB x m.length → foldB y m = y * 256 ^ m.length + x % 256 ^ m.length
  | [], x, y, h => by simp [foldB]
  | c :: m, x, y, h => by
    rw [List.map_cons, List.length_cons, bigB, List.cons.injEq] at h
    have ih := foldB_bigB m x (y * 256 + c.toNat) h.2
    rw [foldB_cons, ih, List.length_cons, h.1, pow_256, Int.pow_succ]
    have e : x % (256 ^ m.length * 256) = x % 256 ^ m.length + 256 ^ m.length * (x / 256 ^ m.length % 256) := by
      have hp : (0 : Int) < 256 ^ m.length := Int.pow_pos (by omega)
      have a1 := Int.emod_add_mul_ediv x (256 ^ m.length)
      have a2 := Int.emod_add_mul_ediv (x / 256 ^ m.length) 256
      have a3 := Int.emod_nonneg x (show (256 : Int) ^ m.length ≠ 0 by omega)
      have a4 := Int.emod_lt_of_pos x hp
      have a5 : 0 ≤ 256 ^ m.length * (x / 256 ^ m.length % 256) := Int.mul_nonneg (by omega) (by omega)
      have a6 : 256 ^ m.length * (x / 256 ^ m.length % 256) ≤ 256 ^ m.length * 255 := Int.mul_le_mul_of_nonneg_left (by omega) (by omega)
      have e2 : x = (x % 256 ^ m.length + 256 ^ m.length * (x / 256 ^ m.length % 256)) + (256 ^ m.length * 256) * (x / 256 ^ m.length / 256) := by
        conv => lhs; rw [← a1, ← a2]
        rw [Int.mul_add, Int.mul_assoc, Int.add_assoc]
      conv => lhs; rw [e2]
      rw [Int.add_mul_emod_self_left, Int.emod_eq_of_lt (by omega) (by rw [show (256:Int) ^ m.length * 256 = 256 ^ m.length * 255 + 256 ^ m.length by omega]; omega)]
    rw [e, Int.add_mul, Int.mul_comm (256 ^ m.length) 256, Int.mul_assoc, Int.mul_comm (256 ^ m.length) (x / _ % _)]
    omega
theorem u8_inj : ∀ {a b : List UInt8}, a.map (fun c => (c.toNat : Int)) = b.map (fun c => (c.toNat : Int)) → a = b
  | [], [], _ => rfl
  | [], _ :: _, h => by simp at h
  | _ :: _, [], h => by simp at h
  | x :: a, y :: b, h => by
    rw [List.map_cons, List.map_cons, List.cons.injEq] at h
    rw [u8_inj h.2, UInt8.toNat_inj.1 (Int.ofNat_inj.1 h.1)]
theorem bytesOf_inj {s t : ByteArray} (h : bytesOf s = bytesOf t) : s = t := by
  rw [← bytes_bk s, h, bytes_bk]
theorem uint_pieces (b : UInt8) (m : List UInt8) (x t : Int) (hx : 0 ≤ x) (hb : (b.toNat : Int) = x + t) (n : Int) (hn : n = foldB x m) : bigB (n + t * 256 ^ m.length) (m.length + 1) = (b.toNat : Int) :: m.map (fun c => (c.toNat : Int)) := by
  have h := bigB_foldB (b :: m) 0 (by omega)
  rw [foldB_cons, Int.zero_mul, Int.zero_add, List.length_cons, List.map_cons, hb, foldB_shift] at h
  rw [hn, h, hb]
theorem bt_head (b : UInt8) (t : List UInt8) (s : ByteArray) (h : s.data.toList = b :: t) : bt s 0 = (b.toNat : Int) := by
  have := bt_getD s 0
  rw [h] at this
  exact this
theorem sizeN_pos (b : Int) : 1 ≤ sizeN b := by
  unfold sizeN
  by_cases h1 : b < 64
  · rw [if_pos h1]; omega
  · rw [if_neg h1]
    by_cases h2 : b < 128
    · rw [if_pos h2]; omega
    · rw [if_neg h2]
      by_cases h3 : b < 192
      · rw [if_pos h3]; omega
      · rw [if_neg h3]; omega
theorem nextP_only (s : ByteArray) (n : Int) (r : ByteArray) (h : nextP s = (n, r, 0)) : bytesOf s = uintB n ++ bytesOf r ∧ 0 ≤ n ∧ n < 18446744073709551616 := by
  unfold nextP at h
  by_cases h0 : s.size = 0
  · rw [if_pos h0] at h; simp at h
  rw [if_neg h0] at h
  by_cases h1 : 192 < bt s 0
  · rw [if_pos h1] at h; simp at h
  rw [if_neg h1] at h
  by_cases h2 : s.size < sizeN (bt s 0)
  · rw [if_pos h2] at h; simp at h
  rw [if_neg h2] at h
  by_cases h3 : foldB (if bt s 0 = 192 then 0 else bt s 0 % 64) ((s.data.toList.take (sizeN (bt s 0))).drop 1) < leastN (sizeN (bt s 0))
  · rw [if_pos h3] at h; simp at h
  rw [if_neg h3] at h
  simp only [Prod.mk.injEq] at h
  obtain ⟨e1, e2, -⟩ := h
  rw [← size_len] at h2
  obtain ⟨b, t, hL⟩ : ∃ b t, s.data.toList = b :: t := by
    cases hL : s.data.toList with
    | nil => rw [← size_len, hL] at h0; simp at h0
    | cons b t => exact ⟨b, t, rfl⟩
  have hr : r.data.toList = (b :: t).drop (sizeN (bt s 0)) := by rw [← e2, ext_list, ← size_len, List.take_length, hL]
  have hbs : bytesOf s = (b.toNat : Int) :: t.map (fun c => (c.toNat : Int)) := by unfold bytesOf; rw [hL]; rfl
  have hbr : bytesOf r = ((b :: t).drop (sizeN (bt s 0))).map (fun c => (c.toNat : Int)) := by unfold bytesOf; rw [hr]
  rw [hbs, hbr]
  rw [bt_head b t s hL] at *
  rw [hL] at e1 h2 h3
  have hb := byte_range b
  obtain ⟨k, hk⟩ : ∃ k, sizeN (b.toNat : Int) = k + 1 := ⟨sizeN (b.toNat : Int) - 1, by have h1 := sizeN_pos (b.toNat : Int); omega⟩
  rw [hk] at e1 h2 h3 ⊢
  rw [List.take_succ_cons, List.drop_succ_cons, List.drop_zero] at e1 h3
  rw [List.drop_succ_cons]
  have hml : (t.take k).length = k := by rw [List.length_take]; rw [List.length_cons] at h2; omega
  have hmt : t.map (fun c => (c.toNat : Int)) = (t.take k).map (fun c => (c.toNat : Int)) ++ (t.drop k).map (fun c => (c.toNat : Int)) := by rw [← List.map_append, List.take_append_drop]
  rw [hmt]
  generalize t.take k = m at *
  generalize (t.drop k).map (fun c => (c.toNat : Int)) = z at *
  rw [e1] at h3
  suffices H : (b.toNat : Int) :: m.map (fun c => (c.toNat : Int)) = uintB n ∧ 0 ≤ n ∧ n < 18446744073709551616 by
    rw [← H.1]; exact ⟨rfl, H.2⟩
  have hx : (if (b.toNat : Int) = 192 then (0 : Int) else (b.toNat : Int) % 64) = (b.toNat : Int) % 64 := by split <;> omega
  rw [hx] at e1
  have hr2 := foldB_le m ((b.toNat : Int) % 64) (by omega)
  rw [e1, hml] at hr2
  by_cases c1 : (b.toNat : Int) < 64
  · have hk0 : k = 0 := by unfold sizeN at hk; rw [if_pos c1] at hk; omega
    subst hk0
    have hm0 : m = [] := List.eq_nil_of_length_eq_zero hml
    subst hm0
    have hn : n = b.toNat := by rw [← e1]; show (b.toNat : Int) % 64 = b.toNat; omega
    refine ⟨?_, by omega, by omega⟩
    unfold uintB
    rw [if_pos (by omega), hn]
    rfl
  · by_cases c2 : (b.toNat : Int) < 128
    · have hk0 : k = 1 := by unfold sizeN at hk; rw [if_neg c1, if_pos c2] at hk; omega
      subst hk0
      have hu := uint_pieces b m ((b.toNat : Int) % 64) 64 (by omega) (by omega) n e1.symm
      rw [hml] at hu
      have h3' : ¬ n < 64 := h3
      have hr3 : 0 ≤ n ∧ n < ((b.toNat : Int) % 64 + 1) * 256 := hr2
      refine ⟨?_, by omega, by omega⟩
      unfold uintB
      rw [if_neg (by omega), if_pos (by omega)]
      exact hu.symm
    · by_cases c3 : (b.toNat : Int) < 192
      · have hk0 : k = 3 := by unfold sizeN at hk; rw [if_neg c1, if_neg c2, if_pos c3] at hk; omega
        subst hk0
        have hu := uint_pieces b m ((b.toNat : Int) % 64) 128 (by omega) (by omega) n e1.symm
        rw [hml] at hu
        have h3' : ¬ n < 16384 := h3
        have hr3 : 0 ≤ n ∧ n < ((b.toNat : Int) % 64 + 1) * 16777216 := hr2
        refine ⟨?_, by omega, by omega⟩
        unfold uintB
        rw [if_neg (by omega), if_neg (by omega), if_pos (by omega)]
        exact hu.symm
      · have hk0 : k = 8 := by unfold sizeN at hk; rw [if_neg c1, if_neg c2, if_neg c3] at hk; omega
        subst hk0
        have hb9 : (b.toNat : Int) = 192 := by omega
        have h3' : ¬ n < 1073741824 := h3
        have hr3 : 0 ≤ n ∧ n < ((b.toNat : Int) % 64 + 1) * 18446744073709551616 := hr2
        refine ⟨?_, by omega, by omega⟩
        unfold uintB
        rw [if_neg (by omega), if_neg (by omega), if_neg (by omega), hb9, ← e1, hb9]
        congr 1
        have := bigB_foldB m 0 (by omega)
        rw [hml] at this
        exact this.symm
theorem next_intro (s r : ByteArray) (b : UInt8) (m : List UInt8) (n : Int) (hL : s.data.toList = b :: m ++ r.data.toList) (hb : (b.toNat : Int) ≤ 192) (hk : sizeN (b.toNat : Int) = m.length + 1) (hn : n = foldB ((b.toNat : Int) % 64) m) (hl : leastN (m.length + 1) ≤ n) : nextP s = (n, r, 0) := by
  have h0 : s.size ≠ 0 := by rw [← size_len, hL]; simp
  have hx : (if (b.toNat : Int) = 192 then (0 : Int) else (b.toNat : Int) % 64) = (b.toNat : Int) % 64 := by split <;> omega
  have ht : ((s.data.toList.take (m.length + 1)).drop 1) = m := by rw [hL]; simp
  unfold nextP
  rw [bt_head b _ s hL, hk, ht, hx, ← hn, if_neg h0, if_neg (by omega), if_neg (by rw [← size_len, hL]; simp), if_neg (by omega)]
  have hr : s.extract (m.length + 1) s.size = r := by
    apply ba_ext
    rw [ext_list, ← size_len, List.take_length, hL]
    simp
  rw [hr]
theorem nextP_back (s : ByteArray) (n : Int) (r : ByteArray) (h0 : 0 ≤ n) (h1 : n < 18446744073709551616) (h : bytesOf s = uintB n ++ bytesOf r) : nextP s = (n, r, 0) := by
  obtain ⟨b, m, z, hL, hU, hZ⟩ : ∃ (b : UInt8) (m z : List UInt8), s.data.toList = b :: m ++ z ∧ uintB n = (b.toNat : Int) :: m.map (fun c => (c.toNat : Int)) ∧ z = r.data.toList := by
    have hlen : 1 ≤ (uintB n).length := by
      unfold uintB
      repeat' split
      all_goals simp [bigB]
    unfold bytesOf at h
    obtain ⟨p, z, hp, h2, h3⟩ := List.map_eq_append_iff.1 h
    cases p with
    | nil => rw [← h2] at hlen; simp at hlen
    | cons b m => exact ⟨b, m, z, hp, by rw [← h2]; rfl, u8_inj h3⟩
  subst hZ
  have hb := byte_range b
  unfold uintB at hU
  by_cases c1 : n < 64
  · rw [if_pos c1, List.cons.injEq] at hU
    have hm : m = [] := by have := congrArg List.length hU.2; rw [List.length_map] at this; exact List.eq_nil_of_length_eq_zero this.symm
    subst hm
    refine next_intro s r b [] n hL (by omega) (by unfold sizeN; rw [if_pos (by omega)]; rfl) ?_ (by show 0 ≤ n; exact h0)
    show n = (b.toNat : Int) % 64
    omega
  · rw [if_neg c1] at hU
    by_cases c2 : n < 16384
    · rw [if_pos c2, bigB, List.cons.injEq] at hU
      have hm : m.length = 1 := by have := congrArg List.length hU.2; rw [bigB_length, List.length_map] at this; exact this.symm
      have hbn : (n + 16384) / 256 % 256 = (b.toNat : Int) := hU.1
      have hf := foldB_bigB m (n + 16384) ((b.toNat : Int) % 64) (by rw [hm]; exact hU.2.symm)
      rw [hm] at hf
      refine next_intro s r b m n hL (by omega) (by unfold sizeN; rw [if_neg (by omega), if_pos (by omega), hm]) ?_ (by rw [hm]; show 64 ≤ n; omega)
      rw [hf]
      show n = (b.toNat : Int) % 64 * 256 + (n + 16384) % 256
      omega
    · rw [if_neg c2] at hU
      by_cases c3 : n < 1073741824
      · rw [if_pos c3, bigB, List.cons.injEq] at hU
        have hm : m.length = 3 := by have := congrArg List.length hU.2; rw [bigB_length, List.length_map] at this; exact this.symm
        have hbn : (n + 2147483648) / 16777216 % 256 = (b.toNat : Int) := hU.1
        have hf := foldB_bigB m (n + 2147483648) ((b.toNat : Int) % 64) (by rw [hm]; exact hU.2.symm)
        rw [hm] at hf
        refine next_intro s r b m n hL (by omega) (by unfold sizeN; rw [if_neg (by omega), if_neg (by omega), if_pos (by omega), hm]) ?_ (by rw [hm]; show 16384 ≤ n; omega)
        rw [hf]
        show n = (b.toNat : Int) % 64 * 16777216 + (n + 2147483648) % 16777216
        omega
      · rw [if_neg c3, List.cons.injEq] at hU
        have hm : m.length = 8 := by have := congrArg List.length hU.2; rw [bigB_length, List.length_map] at this; exact this.symm
        have hbn : 192 = (b.toNat : Int) := hU.1
        have hf := foldB_bigB m n ((b.toNat : Int) % 64) (by rw [hm]; exact hU.2.symm)
        rw [hm] at hf
        refine next_intro s r b m n hL (by omega) (by unfold sizeN; rw [if_neg (by omega), if_neg (by omega), if_neg (by omega), hm]) ?_ (by rw [hm]; show 1073741824 ≤ n; omega)
        rw [hf, ← hbn]
        show n = 0 * 18446744073709551616 + n % 18446744073709551616
        omega
theorem bytes_split {s : ByteArray} {a z : List Int} (h : bytesOf s = a ++ z) : ∃ r, bytesOf r = z := by
  unfold bytesOf at h
  obtain ⟨p, q, hp, h2, h3⟩ := List.map_eq_append_iff.1 h
  exact ⟨⟨q.toArray⟩, h3⟩
theorem bytesOf_drop (s : ByteArray) (k : Nat) : bytesOf (s.extract k s.size) = (bytesOf s).drop k := by
  unfold bytesOf
  rw [ext_list, ← size_len, List.take_length, List.map_drop]
theorem bytesOf_take (s : ByteArray) (k : Nat) : bytesOf (s.extract 0 k) = (bytesOf s).take k := by
  unfold bytesOf
  rw [ext_list, List.drop_zero, List.map_take]
theorem byteP_only (c : Cur) (h : (byteP c).2.2 = 0) : c.2 = 0 ∧ bytesOf c.1 = (byteP c).1 :: bytesOf (byteP c).2.1 := by
  unfold byteP at h ⊢
  by_cases h0 : c.2 = 0
  · rw [if_pos h0] at h ⊢
    refine ⟨h0, ?_⟩
    by_cases h1 : c.1.size = 0
    · rw [if_pos h1] at h; simp at h
    · rw [if_neg h1]
      show bytesOf c.1 = bt c.1 0 :: bytesOf (c.1.extract 1 c.1.size)
      rw [bytesOf_drop]
      cases hL : c.1.data.toList with
      | nil => rw [← size_len, hL] at h1; simp at h1
      | cons b t =>
        rw [bt_head b t _ hL]
        unfold bytesOf
        rw [hL]
        rfl
  · rw [if_neg h0] at h
    exact absurd h h0
theorem byteP_back (s r : ByteArray) (b : Int) (h : bytesOf s = b :: bytesOf r) : byteP (s, 0) = (b, (r, 0)) := by
  have h1 : s.size ≠ 0 := by
    have := congrArg List.length h
    rw [bytesOf_length, List.length_cons] at this
    omega
  have hq := byteP_only (s, 0) (by unfold byteP; rw [if_pos rfl, if_neg h1])
  have hz : (byteP (s, 0)).2.2 = 0 := by unfold byteP; rw [if_pos rfl, if_neg h1]
  have h2 := hq.2
  rw [h, List.cons.injEq] at h2
  have h3 := bytesOf_inj h2.2
  rw [Prod.ext_iff, Prod.ext_iff]
  exact ⟨h2.1.symm, h3.symm, hz⟩
theorem uintP_only (c : Cur) (h : (uintP c).2.2 = 0) : c.2 = 0 ∧ bytesOf c.1 = uintB (uintP c).1 ++ bytesOf (uintP c).2.1 ∧ 0 ≤ (uintP c).1 ∧ (uintP c).1 < 18446744073709551616 := by
  unfold uintP at h ⊢
  by_cases h0 : c.2 = 0
  · rw [if_pos h0] at h ⊢
    exact ⟨h0, nextP_only c.1 _ _ (by rw [Prod.ext_iff, Prod.ext_iff]; exact ⟨rfl, rfl, h⟩)⟩
  · rw [if_neg h0] at h
    exact absurd h h0
theorem uintP_back (s r : ByteArray) (n : Int) (h0 : 0 ≤ n) (h1 : n < 18446744073709551616) (h : bytesOf s = uintB n ++ bytesOf r) : uintP (s, 0) = (n, (r, 0)) := by
  unfold uintP
  rw [if_pos rfl, nextP_back s n r h0 h1 h]
theorem countP_only (c : Cur) (h : (countP c).1.2 = 0) : c.2 = 0 ∧ (countP c).2.2 = 0 ∧ bytesOf c.1 = uintB (countP c).1.1 ++ bytesOf (countP c).2.1 ∧ 0 ≤ (countP c).1.1 ∧ (countP c).1.1 ≤ 65536 := by
  have hr := countP_range c
  unfold countP at h hr ⊢
  by_cases h0 : (uintP c).1 > 65536
  · rw [if_pos h0] at h; simp at h
  · rw [if_neg h0] at h hr ⊢
    have := uintP_only c h
    exact ⟨this.1, h, this.2.1, hr⟩
theorem countP_back (s r : ByteArray) (n : Nat) (h1 : n ≤ 65536) (h : bytesOf s = uintB n ++ bytesOf r) : countP (s, 0) = (((n : Int), 0), (r, 0)) := by
  unfold countP
  rw [uintP_back s r n (by omega) (by omega) h, if_neg (by show ¬ (n : Int) > 65536; omega)]
theorem textP_only (c : Cur) (h : (textP c).2.2 = 0) : c.2 = 0 ∧ bytesOf c.1 = textB (textP c).1 ++ bytesOf (textP c).2.1 ∧ (textP c).1.size ≤ 64 := by
  unfold textP at h ⊢
  by_cases h0 : c.2 = 0
  · rw [if_pos h0] at h ⊢
    by_cases h1 : (nextP c.1).2.2 = 0
    · rw [if_pos h1] at h ⊢
      have hn := nextP_only c.1 _ _ (show nextP c.1 = ((nextP c.1).1, (nextP c.1).2.1, 0) by rw [Prod.ext_iff, Prod.ext_iff]; exact ⟨rfl, rfl, h1⟩)
      by_cases h2 : (nextP c.1).1 > 64
      · rw [if_pos h2] at h; simp at h
      · rw [if_neg h2] at h ⊢
        by_cases h3 : ((nextP c.1).2.1.size : Int) < (nextP c.1).1
        · rw [if_pos h3] at h; simp at h
        · rw [if_neg h3]
          generalize (nextP c.1).1 = n at *
          generalize (nextP c.1).2.1 = r at *
          have hs : ((r.extract 0 n.toNat).size : Int) = n := by rw [ByteArray.size_extract]; omega
          refine ⟨h0, ?_, by show (r.extract 0 n.toNat).size ≤ 64; omega⟩
          show bytesOf c.1 = textB (r.extract 0 n.toNat) ++ bytesOf (r.extract n.toNat r.size)
          unfold textB
          rw [hs, hn.1, bytesOf_take, bytesOf_drop, List.append_assoc, List.take_append_drop]
    · rw [if_neg h1] at h
      exact absurd h h1
  · rw [if_neg h0] at h
    exact absurd h h0
theorem textP_back (s r t : ByteArray) (ht : t.size ≤ 64) (h : bytesOf s = textB t ++ bytesOf r) : textP (s, 0) = (t, (r, 0)) := by
  unfold textB at h
  rw [List.append_assoc] at h
  obtain ⟨z, hz⟩ := bytes_split h
  rw [← hz] at h
  have hn := nextP_back s _ z (by omega) (by omega) h
  have hzs := congrArg List.length hz
  rw [List.length_append, bytesOf_length, bytesOf_length, bytesOf_length] at hzs
  unfold textP
  rw [if_pos rfl, hn, if_pos rfl, if_neg (by show ¬ (t.size : Int) > 64; omega), if_neg (by show ¬ (z.size : Int) < t.size; omega)]
  have e1 : z.extract 0 (t.size : Int).toNat = t := bytesOf_inj (by rw [bytesOf_take, hz, Int.toNat_natCast, List.take_left' (bytesOf_length t)])
  have e2 : z.extract (t.size : Int).toNat z.size = r := bytesOf_inj (by rw [bytesOf_drop, hz, Int.toNat_natCast, List.drop_left' (bytesOf_length t)])
  rw [Prod.ext_iff, Prod.ext_iff]
  exact ⟨e1, e2, rfl⟩
theorem putB_cons (t : ByteArray) (l : List ByteArray) : putB (t :: l) = textB t ++ putB l := rfl
theorem getP_only : ∀ (n : Nat) (l : List ByteArray) (c : Cur), c.2 = 0 → (getP n l c).1.2 = 0 →
    ∃ m, (getP n l c).1.1 = l ++ m ∧ m.length = n ∧ (∀ t ∈ m, t.size ≤ 64) ∧ bytesOf c.1 = putB m ++ bytesOf (getP n l c).2.1 ∧ (getP n l c).2.2 = 0
  | 0, l, c, hc, h => ⟨[], by rw [List.append_nil]; rfl, rfl, fun t ht => (by cases ht), rfl, hc⟩
  | n + 1, l, c, hc, h => by
    rw [getP] at h ⊢
    by_cases h0 : (textP c).2.2 = 0
    · rw [if_pos h0] at h ⊢
      have ht := textP_only c h0
      obtain ⟨m, h1, h2, h3, h4, h5⟩ := getP_only n (l ++ [(textP c).1]) (textP c).2 h0 h
      refine ⟨(textP c).1 :: m, by rw [h1, List.append_assoc]; rfl, by rw [List.length_cons, h2], ?_, ?_, h5⟩
      · intro t ht2
        rcases List.mem_cons.1 ht2 with rfl | ht2
        · exact ht.2.2
        · exact h3 t ht2
      · rw [putB_cons, List.append_assoc, ← h4, ← ht.2.1]
    · rw [if_neg h0] at h
      exact absurd h h0
theorem getP_back : ∀ (m l : List ByteArray) (s r : ByteArray), (∀ t ∈ m, t.size ≤ 64) → bytesOf s = putB m ++ bytesOf r → getP m.length l (s, 0) = ((l ++ m, 0), (r, 0))
  | [], l, s, r, hm, h => by
    rw [bytesOf_inj (show bytesOf s = bytesOf r from h), List.append_nil]
    rfl
  | t :: m, l, s, r, hm, h => by
    rw [putB_cons, List.append_assoc] at h
    obtain ⟨z, hz⟩ := bytes_split h
    rw [← hz] at h
    rw [List.length_cons, getP, textP_back s z t (hm t List.mem_cons_self) h, if_pos rfl, getP_back m (l ++ [t]) z r (fun x hx => hm x (List.mem_cons_of_mem _ hx)) hz, List.append_assoc]
    rfl
theorem afterP_iff (l : List ByteArray) (t : ByteArray) : afterP l t = true ↔ ∀ x, l.getLast? = some x → x.data.toList < t.data.toList := by
  unfold afterP
  cases hl : l.getLast? with
  | none => simp
  | some x =>
    simp only [Bool.not_eq_true', Bool.or_eq_false_iff, Option.some.injEq]
    constructor
    · rintro ⟨h1, h2⟩ y rfl
      have h3 : ¬ t.data.toList < x.data.toList := by
        intro hlt
        rw [ByteArray.toList_eq, ByteArray.toList_eq] at h1
        rw [(less_lt _ _).2 hlt] at h1
        cases h1
      have h4 : t.data.toList ≠ x.data.toList := by
        intro e
        rw [ByteArray.toList_eq, ByteArray.toList_eq, e] at h2
        simp at h2
      exact Decidable.byContradiction fun hn => h4 (List.le_antisymm (List.not_lt.1 hn) (List.not_lt.1 h3))
    · intro h
      have hlt := h x rfl
      rw [ByteArray.toList_eq, ByteArray.toList_eq]
      refine ⟨?_, ?_⟩
      · cases hb : Op.bytesLess t.data.toList x.data.toList with
        | false => rfl
        | true => exact absurd (List.lt_trans hlt ((less_lt _ _).1 hb)) (List.lt_irrefl _)
      · cases hb : (t.data.toList == x.data.toList) with
        | false => rfl
        | true =>
          rw [beq_iff_eq] at hb
          rw [hb] at hlt
          exact absurd hlt (List.lt_irrefl _)
theorem risen_snoc {l : List ByteArray} {t : ByteArray} (h : Risen l) (ha : afterP l t = true) : Risen (l ++ [t]) := by
  unfold Risen at h ⊢
  rw [List.pairwise_append]
  refine ⟨h, List.pairwise_singleton _ _, ?_⟩
  intro a hal b hb
  rw [List.mem_singleton] at hb
  subst hb
  have hl := (afterP_iff l b).1 ha
  rcases List.eq_nil_or_concat l with rfl | ⟨l', x, rfl⟩
  · cases hal
  · have hx := hl x (by simp)
    rw [List.concat_eq_append] at hal h
    rcases List.mem_append.1 hal with h1 | h1
    · rw [List.pairwise_append] at h
      exact List.lt_trans (h.2.2 a h1 x (by simp)) hx
    · rw [List.mem_singleton] at h1
      rw [h1]; exact hx
theorem after_of {l : List ByteArray} {t : ByteArray} (h : Risen (l ++ [t])) : afterP l t = true := by
  rw [afterP_iff]
  intro x hx
  unfold Risen at h
  rw [List.pairwise_append] at h
  exact h.2.2 x (List.mem_of_getLast? hx) t (by simp)
theorem ordP_only : ∀ (n : Nat) (l : List ByteArray) (c : Cur), Risen l → c.2 = 0 → (ordP n l c).1.2 = 0 →
    ∃ m, (ordP n l c).1.1 = l ++ m ∧ m.length = n ∧ (∀ t ∈ m, t.size ≤ 64) ∧ Risen (l ++ m) ∧ bytesOf c.1 = putB m ++ bytesOf (ordP n l c).2.1 ∧ (ordP n l c).2.2 = 0
  | 0, l, c, hl, hc, h => ⟨[], by rw [List.append_nil]; rfl, rfl, fun t ht => (by cases ht), by rw [List.append_nil]; exact hl, rfl, hc⟩
  | n + 1, l, c, hl, hc, h => by
    rw [ordP] at h ⊢
    by_cases h0 : (textP c).2.2 = 0
    · rw [if_pos h0] at h ⊢
      have ht := textP_only c h0
      by_cases ha : afterP l (textP c).1 = true
      · rw [if_pos ha] at h ⊢
        obtain ⟨m, h1, h2, h3, h6, h4, h5⟩ := ordP_only n (l ++ [(textP c).1]) (textP c).2 (risen_snoc hl ha) h0 h
        refine ⟨(textP c).1 :: m, by rw [h1, List.append_assoc]; rfl, by rw [List.length_cons, h2], ?_, by rw [List.append_assoc] at h6; exact h6, ?_, h5⟩
        · intro t ht2
          rcases List.mem_cons.1 ht2 with rfl | ht2
          · exact ht.2.2
          · exact h3 t ht2
        · rw [putB_cons, List.append_assoc, ← h4, ← ht.2.1]
      · rw [if_neg ha] at h
        simp at h
    · rw [if_neg h0] at h
      exact absurd h h0
theorem ordP_back : ∀ (m l : List ByteArray) (s r : ByteArray), (∀ t ∈ m, t.size ≤ 64) → Risen (l ++ m) → bytesOf s = putB m ++ bytesOf r → ordP m.length l (s, 0) = ((l ++ m, 0), (r, 0))
  | [], l, s, r, hm, hl, h => by
    rw [bytesOf_inj (show bytesOf s = bytesOf r from h), List.append_nil]
    rfl
  | t :: m, l, s, r, hm, hl, h => by
    rw [putB_cons, List.append_assoc] at h
    obtain ⟨z, hz⟩ := bytes_split h
    rw [← hz] at h
    have hl2 : Risen ((l ++ [t]) ++ m) := by rw [List.append_assoc]; exact hl
    have ha : afterP l t = true := after_of (by
      unfold Risen at hl2 ⊢
      exact (List.pairwise_append.1 hl2).1)
    rw [List.length_cons, ordP, textP_back s z t (hm t List.mem_cons_self) h, if_pos rfl, if_pos ha, ordP_back m (l ++ [t]) z r (fun x hx => hm x (List.mem_cons_of_mem _ hx)) hl2 hz, List.append_assoc]
    rfl
theorem getOrdP_only (c : Cur) (h : (getOrdP c).1.2 = 0) :
    c.2 = 0 ∧ (getOrdP c).2.2 = 0 ∧ Risen (getOrdP c).1.1 ∧ (getOrdP c).1.1.length ≤ 65536 ∧ (∀ t ∈ (getOrdP c).1.1, t.size ≤ 64) ∧ bytesOf c.1 = uintB (getOrdP c).1.1.length ++ putB (getOrdP c).1.1 ++ bytesOf (getOrdP c).2.1 := by
  unfold getOrdP at h ⊢
  by_cases h0 : (countP c).1.2 = 0
  · rw [if_pos h0] at h ⊢
    have hc := countP_only c h0
    obtain ⟨m, h1, h2, h3, h6, h4, h5⟩ := ordP_only _ [] (countP c).2 List.Pairwise.nil hc.2.1 h
    rw [List.nil_append] at h1 h6
    rw [h1]
    refine ⟨hc.1, h5, h6, by omega, h3, ?_⟩
    rw [hc.2.2.1, h4, List.append_assoc, h2, Int.toNat_of_nonneg hc.2.2.2.1]
  · rw [if_neg h0] at h
    exact absurd h h0
theorem getOrdP_back (m : List ByteArray) (s r : ByteArray) (hm : ∀ t ∈ m, t.size ≤ 64) (hl : m.length ≤ 65536) (hr : Risen m) (h : bytesOf s = uintB m.length ++ putB m ++ bytesOf r) : getOrdP (s, 0) = ((m, 0), (r, 0)) := by
  rw [List.append_assoc] at h
  obtain ⟨z, hz⟩ := bytes_split h
  rw [← hz] at h
  unfold getOrdP
  rw [countP_back s z m.length hl h, if_pos rfl]
  have := ordP_back m [] z r hm hr hz
  rw [List.nil_append] at this
  exact this
theorem bitsI_byteOf : ∀ bs : List Bool, bitsI (byteOf bs) bs.length = bs
  | [] => rfl
  | b :: bs => by
    have ih := bitsI_byteOf bs
    rw [List.length_cons, bitsI, byteOf]
    cases b with
    | true =>
      rw [if_pos rfl, show ((1 : Int) + 2 * byteOf bs) % 2 = 1 by omega, show ((1 : Int) + 2 * byteOf bs) / 2 = byteOf bs by omega, ih]
      rfl
    | false =>
      rw [if_neg (by decide), show ((0 : Int) + 2 * byteOf bs) % 2 = 0 by omega, show ((0 : Int) + 2 * byteOf bs) / 2 = byteOf bs by omega, ih]
      rfl
theorem bitsI_of_byte (z : List Bool) (w : Nat) (h : z.length = w) : bitsI (byteOf z) w = z := by rw [← h, bitsI_byteOf]
theorem allBits_snoc (w : Nat) (l : List Int) (x : Int) : allBits w (l ++ [x]) = allBits w l ++ bitsI x w := by
  unfold allBits
  rw [List.flatMap_append]
  simp
theorem getAll_bits (s : ByteArray) (w : Nat) : ∀ n, n * w ≤ 8 * s.size → allBits w (getAll s w n) = (bitsS s.data.toList).take (n * w)
  | 0, h => by rw [Nat.zero_mul]; rfl
  | n + 1, h => by
    rw [Nat.succ_mul] at h ⊢
    have hl : (((bitsS s.data.toList).drop (n * w)).take w).length = w := by
      rw [List.length_take, List.length_drop, bitsS_length, size_len]; omega
    rw [getAll_succ, allBits_snoc, getAll_bits s w n (by omega), getI, bitsI_of_byte _ _ hl, List.take_add]
theorem getAll_range (s : ByteArray) (w n : Nat) (h : n * w ≤ 8 * s.size) : ∀ x ∈ getAll s w n, 0 ≤ x ∧ x < 2 ^ w := by
  intro x hx
  unfold getAll at hx
  rw [List.mem_map] at hx
  obtain ⟨i, hi, rfl⟩ := hx
  rw [List.mem_range] at hi
  refine getI_range s (i * w) w ?_
  have : (i + 1) * w ≤ n * w := Nat.mul_le_mul_right w hi
  rw [Nat.succ_mul] at this
  omega
theorem getAll_back (s : ByteArray) (w : Nat) (l : List Int) (z : List Bool) (hl : ∀ x ∈ l, 0 ≤ x ∧ x < 2 ^ w) (hb : bitsS s.data.toList = allBits w l ++ z) : ∀ j, j ≤ l.length → getAll s w j = l.take j
  | 0, _ => rfl
  | j + 1, hj => by
    have e : l = l.take j ++ l[j] :: l.drop (j + 1) := by
      conv => lhs; rw [← List.take_append_drop j l, List.drop_eq_getElem_cons (by omega)]
    have hx := hl l[j] (List.getElem_mem _)
    rw [getAll_succ, getAll_back s w l z hl hb j (by omega), List.take_succ_eq_append_getElem (by omega)]
    congr 1
    congr 1
    have hlen : (allBits w (l.take j)).length = j * w := by rw [allBits_length, List.length_take, Nat.min_eq_left (by omega)]
    have hb2 : bitsS s.data.toList = allBits w (l.take j) ++ (bitsI l[j] w ++ (allBits w (l.drop (j + 1)) ++ z)) := by
      rw [hb]
      conv => lhs; rw [e]
      unfold allBits
      rw [List.flatMap_append, List.flatMap_cons]
      simp only [List.append_assoc]
    unfold getI
    rw [hb2, List.drop_left' hlen, List.take_left' (bitsI_length w _), byteOf_bitsI]
    exact Int.emod_eq_of_lt hx.1 hx.2
theorem bitsS_cons (b : UInt8) (t : List UInt8) : bitsS (b :: t) = bitsI b.toNat 8 ++ bitsS t := rfl
theorem byteOf_u8 (b : UInt8) : byteOf (bitsI b.toNat 8) = (b.toNat : Int) := by
  rw [byteOf_bitsI]
  have := byte_range b
  exact Int.emod_eq_of_lt this.1 this.2
theorem packB_of : ∀ (L : List UInt8) (bs z : List Bool), bitsS L = bs ++ z → z.length < 8 → byteOf z = 0 → packB bs = L.map (fun c => (c.toNat : Int))
  | [], bs, z, h, hz, h0 => by
    have hb : bs = [] := (List.append_eq_nil_iff.1 h.symm).1
    rw [hb, packB_nil]; rfl
  | b :: t, bs, z, h, hz, h0 => by
    rw [bitsS_cons] at h
    by_cases hl : 8 ≤ bs.length
    · have e1 : bs = bitsI b.toNat 8 ++ bs.drop 8 := by
        have := congrArg (List.take 8) h
        rw [List.take_left' (bitsI_length 8 _), List.take_append_of_le_length hl] at this
        rw [this, List.take_append_drop]
      have e2 : bitsS t = bs.drop 8 ++ z := by
        have := congrArg (List.drop 8) h
        rw [List.drop_left' (bitsI_length 8 _), List.drop_append_of_le_length hl] at this
        exact this
      rw [e1, packB_chunk _ _ (bitsI_length 8 _), packB_of t _ z e2 hz h0, byteOf_u8, List.map_cons]
    · have hlen := congrArg List.length h
      rw [List.length_append, List.length_append, bitsI_length, bitsS_length] at hlen
      have ht : t = [] := List.eq_nil_of_length_eq_zero (by omega)
      subst ht
      have h' : bitsI b.toNat 8 = bs ++ z := by rw [← h]; exact (List.append_nil _).symm
      rw [packB_small bs (by simp at hlen; omega) (by omega)]
      have := byteOf_append bs z
      rw [← h', byteOf_u8, h0, Int.mul_zero, Int.add_zero] at this
      rw [← this]; rfl
theorem packB_bits (bs : List Bool) : ∃ z : List Bool, bitsS (strOfNums (packB bs)).data.toList = bs ++ z ∧ z.length < 8 ∧ byteOf z = 0 := by
  obtain ⟨n, hn⟩ : ∃ n, bs.length = n := ⟨_, rfl⟩
  induction n using Nat.strongRecOn generalizing bs with
  | ind n ih =>
    have hu : ∀ cs : List Bool, cs.length ≤ 8 → ((UInt8.ofNat (byteOf cs).toNat).toNat : Int) = byteOf cs := by
      intro cs hc
      have hr := byteOf_range cs
      have : (2 : Int) ^ cs.length ≤ 2 ^ 8 := by
        have := Nat.pow_le_pow_right (show 0 < 2 by decide) hc
        have h2 := Int.ofNat_le.2 this
        simpa using h2
      rw [UInt8.toNat_ofNat']
      omega
    by_cases h0 : bs = []
    · subst h0
      exact ⟨[], by rw [packB_nil]; rfl, by decide, rfl⟩
    have hp : 0 < bs.length := List.length_pos_iff.2 h0
    by_cases h8 : bs.length ≤ 8
    · refine ⟨bitsI 0 (8 - bs.length), ?_, by rw [bitsI_length]; omega, by rw [byteOf_bitsI]; rfl⟩
      rw [packB_small bs hp h8, strOfNums_data, List.map_cons, List.map_nil, bitsS_cons]
      have hr := byteOf_range bs
      have e := bitsI_add bs.length (8 - bs.length) (byteOf bs)
      rw [bitsI_byteOf, Int.ediv_eq_zero_of_lt hr.1 hr.2, show bs.length + (8 - bs.length) = 8 by omega] at e
      rw [hu bs h8, e]
      exact List.append_nil _
    · obtain ⟨z, hz, hz2⟩ := ih (bs.drop 8).length (by rw [List.length_drop]; omega) (bs.drop 8) rfl
      refine ⟨z, ?_, hz2⟩
      have ht : (bs.take 8).length = 8 := by rw [List.length_take]; omega
      have hb := bitsI_of_byte (bs.take 8) 8 ht
      conv => lhs; rw [← List.take_append_drop 8 bs, packB_chunk _ _ ht]
      rw [strOfNums_data, List.map_cons, bitsS_cons, hu _ (by omega), hb, ← strOfNums_data, hz, ← List.append_assoc, List.take_append_drop]
theorem drop_last (s : ByteArray) (m : Nat) (hs : s.size = (m + 7) / 8) (hm : m % 8 ≠ 0) : (bitsS s.data.toList).drop m = bitsI (bt s ((m + 7) / 8 - 1 : Nat) / 2 ^ (m % 8)) (8 - m % 8) := by
  have h := bitsS_at s.data.toList m (8 - m % 8) (by rw [size_len]; omega) (by omega)
  rw [List.take_of_length_le (by rw [List.length_drop, bitsS_length, size_len]; omega)] at h
  rw [h, bt_getD, show (m + 7) / 8 - 1 = m / 8 by omega]
theorem fitsP_only (s : ByteArray) (n w : Nat) (h : fitsP s (n * w) = 0) : s.size = needP n w ∧ bytesOf s = packB (allBits w (getAll s w n)) ∧ n * w ≤ 8 * s.size := by
  unfold fitsP at h
  unfold needP
  generalize hm : n * w = m at *
  by_cases h1 : s.size < (m + 7) / 8
  · rw [if_pos h1] at h; simp at h
  rw [if_neg h1] at h
  by_cases h2 : (m + 7) / 8 < s.size
  · rw [if_pos h2] at h; simp at h
  rw [if_neg h2] at h
  have hs : s.size = (m + 7) / 8 := by omega
  refine ⟨hs, ?_, by omega⟩
  rw [getAll_bits s w n (by omega), hm]
  refine (packB_of s.data.toList _ ((bitsS s.data.toList).drop m) (List.take_append_drop _ _).symm (by rw [List.length_drop, bitsS_length, size_len]; omega) ?_).symm
  by_cases h3 : m % 8 = 0
  · rw [List.drop_of_length_le (by rw [bitsS_length, size_len]; omega)]; rfl
  · rw [if_neg h3] at h
    by_cases h4 : bt s ((m + 7) / 8 - 1 : Nat) / 2 ^ (m % 8) = 0
    · rw [drop_last s m hs h3, h4, byteOf_bitsI]; rfl
    · rw [if_neg h4] at h; simp at h
theorem fitsP_back (s : ByteArray) (w : Nat) (l : List Int) (hl : ∀ x ∈ l, 0 ≤ x ∧ x < 2 ^ w) (h : bytesOf s = packB (allBits w l)) : fitsP s (l.length * w) = 0 ∧ getAll s w l.length = l ∧ s.size = needP l.length w := by
  have hs : s = strOfNums (packB (allBits w l)) := by rw [← h, bytes_bk]
  obtain ⟨z, hz, hz8, hz0⟩ := packB_bits (allBits w l)
  rw [← hs] at hz
  have hg := getAll_back s w l z hl hz l.length (Nat.le_refl _)
  rw [List.take_length] at hg
  have hsz := congrArg List.length h
  rw [bytesOf_length, packB_length, allBits_length] at hsz
  refine ⟨?_, hg, hsz⟩
  unfold fitsP
  have hd : (bitsS s.data.toList).drop (l.length * w) = z := by rw [hz, List.drop_left' (allBits_length w l)]
  generalize l.length * w = m at *
  rw [if_neg (by omega), if_neg (by omega)]
  by_cases h3 : m % 8 = 0
  · rw [if_pos h3]
  · rw [if_neg h3, if_pos]
    rw [drop_last s m hsz h3] at hd
    rw [← hd, byteOf_bitsI] at hz0
    have hbr := bt_range s (((m + 7) / 8 - 1 : Nat) : Int)
    generalize bt s (((m + 7) / 8 - 1 : Nat) : Int) = x at *
    have h8 : m % 8 = 1 ∨ m % 8 = 2 ∨ m % 8 = 3 ∨ m % 8 = 4 ∨ m % 8 = 5 ∨ m % 8 = 6 ∨ m % 8 = 7 := by omega
    rcases h8 with e | e | e | e | e | e | e <;> (rw [e] at hz0 ⊢; simp at hz0 ⊢; omega)
theorem bytes_packB (bs : List Bool) : bytesOf (strOfNums (packB bs)) = packB bs := by
  obtain ⟨z, hz, h8, h0⟩ := packB_bits bs
  exact (packB_of _ bs z hz h8 h0).symm
theorem numP_only (n : Nat) (c : Cur) (h : (numP n c).1.2.2 = 0) : c.2 = 0 ∧ (numP n c).2.2 = 0 ∧ ∃ w : Nat, (numP n c).1.2.1 = w ∧ w ≤ 64 ∧ (numP n c).1.1.length = n ∧ (∀ x ∈ (numP n c).1.1, 0 ≤ x ∧ x < 2 ^ w) ∧
    bytesOf c.1 = (w : Int) :: packB (allBits w (numP n c).1.1) ++ bytesOf (numP n c).2.1 := by
  unfold numP at h ⊢
  by_cases h0 : (byteP c).2.2 = 0
  · rw [if_pos h0] at h ⊢
    have hb := byteP_only c h0
    have hr := byteP_range c
    by_cases h1 : (byteP c).1 > 64
    · rw [if_pos h1] at h; simp at h
    rw [if_neg h1] at h ⊢
    by_cases h2 : (byteP c).2.1.size < needP n (byteP c).1.toNat
    · rw [if_pos h2] at h; simp at h
    rw [if_neg h2] at h ⊢
    refine ⟨hb.1, rfl, (byteP c).1.toNat, (Int.toNat_of_nonneg hr.1).symm, by omega, ?_⟩
    have hw : ((byteP c).1.toNat : Int) = (byteP c).1 := Int.toNat_of_nonneg hr.1
    have hb2 := hb.2
    rw [← hw] at hb2
    generalize (byteP c).1.toNat = w at *
    generalize (byteP c).2.1 = r at *
    have hu : (unpackP (r.extract 0 (needP n w)) n w).2 = 0 := h
    unfold unpackP at hu ⊢
    by_cases h3 : fitsP (r.extract 0 (needP n w)) (n * w) = 0
    · rw [if_pos h3]
      have hf := fitsP_only _ n w h3
      refine ⟨getAll_length _ w n, getAll_range _ w n hf.2.2, ?_⟩
      show bytesOf c.1 = (w : Int) :: packB (allBits w (getAll (r.extract 0 (needP n w)) w n)) ++ bytesOf (r.extract (needP n w) r.size)
      rw [hb2, ← hf.2.1, bytesOf_take, bytesOf_drop, List.cons_append, List.take_append_drop]
    · rw [if_neg h3] at hu
      exact absurd hu h3
  · rw [if_neg h0] at h
    exact absurd h h0
theorem numP_back (s r : ByteArray) (w : Nat) (l : List Int) (hw : w ≤ 64) (hl : ∀ x ∈ l, 0 ≤ x ∧ x < 2 ^ w) (h : bytesOf s = (w : Int) :: packB (allBits w l) ++ bytesOf r) : numP l.length (s, 0) = ((l, (w : Int), 0), (r, 0)) := by
  rw [List.cons_append] at h
  obtain ⟨z, hz⟩ : ∃ z, bytesOf z = packB (allBits w l) ++ bytesOf r := bytes_split (a := [(w : Int)]) h
  rw [← hz] at h
  have hpk : (packB (allBits w l)).length = needP l.length w := by rw [packB_length, allBits_length]; rfl
  have hzl := congrArg List.length hz
  rw [List.length_append, bytesOf_length, bytesOf_length, hpk] at hzl
  have hx : bytesOf (z.extract 0 (needP l.length w)) = packB (allBits w l) := by rw [bytesOf_take, hz, List.take_left' hpk]
  have hf := fitsP_back _ w l hl hx
  have hrest : z.extract (needP l.length w) z.size = r := bytesOf_inj (by rw [bytesOf_drop, hz, List.drop_left' hpk])
  unfold numP
  rw [byteP_back s z w h, if_pos rfl, if_neg (by show ¬ (w : Int) > 64; omega)]
  show (if z.size < needP l.length w then _ else _) = _
  rw [if_neg (by omega)]
  show (((unpackP (z.extract 0 (needP l.length w)) l.length w).1, (w : Int), (unpackP (z.extract 0 (needP l.length w)) l.length w).2), (z.extract (needP l.length w) z.size, (0 : Int))) = _
  unfold unpackP
  rw [if_pos hf.1, hf.2.1, hrest]
theorem pig : ∀ (l m : List Int), l.Nodup → (∀ x ∈ l, x ∈ m) → l.length ≤ m.length
  | [], m, _, _ => Nat.zero_le _
  | x :: l, m, hn, hm => by
    rw [List.nodup_cons] at hn
    have hx := hm x List.mem_cons_self
    have := pig l (m.erase x) hn.2 (fun y hy => (List.mem_erase_of_ne (fun e => hn.1 (by rw [← e]; exact hy))).2 (hm y (List.mem_cons_of_mem _ hy)))
    rw [List.length_erase_of_mem hx] at this
    have hp := List.length_pos_of_mem hx
    rw [List.length_cons]
    omega
theorem nodup_uniq_aux : ∀ (l acc : List Int), acc.Nodup → (l.foldl (fun acc x => if x ∈ acc then acc else acc ++ [x]) acc).Nodup
  | [], acc, h => h
  | x :: l, acc, h => by
    rw [List.foldl_cons]
    refine nodup_uniq_aux l _ ?_
    by_cases hx : x ∈ acc
    · rw [if_pos hx]; exact h
    · rw [if_neg hx, List.nodup_append]
      refine ⟨h, by simp, ?_⟩
      intro a ha b hb e
      rw [List.mem_singleton] at hb
      rw [e, hb] at ha
      exact hx ha
theorem nodup_uniq (l : List Int) : (uniq l).Nodup := nodup_uniq_aux l [] List.nodup_nil
def rangeI (n : Nat) : List Int := (List.range n).map (fun i : Nat => (i : Int))
theorem mem_rangeI (n : Nat) (x : Int) : x ∈ rangeI n ↔ 0 ≤ x ∧ x < n := by
  unfold rangeI
  rw [List.mem_map]
  constructor
  · rintro ⟨i, hi, rfl⟩
    rw [List.mem_range] at hi
    omega
  · intro h
    exact ⟨x.toNat, by rw [List.mem_range]; omega, by omega⟩
theorem rangeI_nodup (n : Nat) : (rangeI n).Nodup := by
  unfold rangeI
  rw [List.nodup_iff_pairwise_ne, List.pairwise_map]
  exact List.nodup_range.imp (fun h e => h (Int.ofNat_inj.1 e))
theorem rangeI_length (n : Nat) : (rangeI n).length = n := by unfold rangeI; simp
theorem uniq_covers (l : List Int) (n : Nat) (h0 : ∀ x ∈ l, 0 ≤ x ∧ x < n) (h : (uniq l).length = n) (i : Nat) (hi : i < n) : (i : Int) ∈ l := by
  rw [← mem_uniq]
  refine Decidable.byContradiction fun hn => ?_
  have := pig ((i : Int) :: uniq l) (rangeI n) (List.nodup_cons.2 ⟨hn, nodup_uniq l⟩) (fun x hx => by
    rw [mem_rangeI]
    rcases List.mem_cons.1 hx with rfl | hx
    · omega
    · exact h0 x ((mem_uniq l x).1 hx))
  rw [List.length_cons, rangeI_length] at this
  omega
theorem uniq_full (l : List Int) (n : Nat) (h0 : ∀ x ∈ l, 0 ≤ x ∧ x < n) (h : ∀ i : Nat, i < n → (i : Int) ∈ l) : (uniq l).length = n := by
  have h1 := pig (uniq l) (rangeI n) (nodup_uniq l) (fun x hx => (mem_rangeI n x).2 (h0 x ((mem_uniq l x).1 hx)))
  have h2 := pig (rangeI n) (uniq l) (rangeI_nodup n) (fun x hx => by
    rw [mem_rangeI] at hx
    rw [mem_uniq, show x = ((x.toNat : Nat) : Int) by omega]
    exact h x.toNat (by omega))
  rw [rangeI_length] at h1 h2
  omega
theorem risen_ext : ∀ a b : List ByteArray, Risen a → Risen b → (∀ x, x ∈ a ↔ x ∈ b) → a = b
  | [], [], _, _, _ => rfl
  | [], y :: b, _, _, h => absurd ((h y).2 List.mem_cons_self) List.not_mem_nil
  | x :: a, [], _, _, h => absurd ((h x).1 List.mem_cons_self) List.not_mem_nil
  | x :: a, y :: b, ha, hb, h => by
    unfold Risen at ha hb
    rw [List.pairwise_cons] at ha hb
    have hxy : x = y := by
      rcases List.mem_cons.1 ((h x).1 List.mem_cons_self) with e | e
      · exact e
      · rcases List.mem_cons.1 ((h y).2 List.mem_cons_self) with e2 | e2
        · exact e2.symm
        · exact absurd (List.lt_trans (hb.1 x e) (ha.1 y e2)) (List.lt_irrefl _)
    subst hxy
    rw [risen_ext a b ha.2 hb.2 (fun z => ?_)]
    constructor
    · intro hz
      rcases List.mem_cons.1 ((h z).1 (List.mem_cons_of_mem _ hz)) with e | e
      · have := ha.1 z hz
        rw [e] at this
        exact absurd this (List.lt_irrefl _)
      · exact e
    · intro hz
      rcases List.mem_cons.1 ((h z).2 (List.mem_cons_of_mem _ hz)) with e | e
      · have := hb.1 z hz
        rw [e] at this
        exact absurd this (List.lt_irrefl _)
      · exact e
theorem rd_at (ws : List ByteArray) (x : Int) (h0 : 0 ≤ x) (h1 : x < ws.length) : rdOf ByteArray.empty ws x = ws[x.toNat]'(by omega) := by
  obtain ⟨j, rfl⟩ : ∃ j : Nat, x = j := ⟨x.toNat, by omega⟩
  have hj : j < ws.length := by omega
  simp [rdOf, hj]
theorem posP_at {ws : List ByteArray} (h : Risen ws) (i : Nat) (hi : i < ws.length) : posP ws ws[i] = i := by
  have hm : ws[i] ∈ ws := List.getElem_mem _
  have hl := posP_lt hm
  have hg := posP_get hm
  by_cases h1 : posP ws ws[i] < i
  · have := (risen_at h _ _ hl hi).2 h1
    rw [hg] at this
    exact absurd this (List.lt_irrefl _)
  · by_cases h2 : i < posP ws ws[i]
    · have := (risen_at h _ _ hi hl).2 h2
      rw [hg] at this
      exact absurd this (List.lt_irrefl _)
    · omega
theorem chooseP_only (ws : List ByteArray) (nums : List Int) (w : Int) (hr : Risen ws) (h0 : ∀ x ∈ nums, 0 ≤ x) (h : (chooseP ws nums w).2 = 0) :
    wordsP (chooseP ws nums w).1 = ws ∧ numsP ws (chooseP ws nums w).1 = nums ∧ (widthP nums : Int) = w ∧ (chooseP ws nums w).1.length = nums.length ∧ ∀ t ∈ (chooseP ws nums w).1, t ∈ ws := by
  unfold chooseP at h ⊢
  by_cases hc : (∀ x ∈ nums, x < ws.length) ∧ (uniq nums).length = ws.length ∧ (widthP nums : Int) = w
  · rw [if_pos hc]
    obtain ⟨h1, h2, h3⟩ := hc
    have hin : ∀ t, t ∈ nums.map (fun x => rdOf ByteArray.empty ws x) ↔ t ∈ ws := by
      intro t
      rw [List.mem_map]
      constructor
      · rintro ⟨x, hx, rfl⟩
        rw [rd_at ws x (h0 x hx) (h1 x hx)]
        exact List.getElem_mem _
      · intro ht
        obtain ⟨i, hi, rfl⟩ := List.getElem_of_mem ht
        refine ⟨(i : Int), uniq_covers nums ws.length (fun x hx => ⟨h0 x hx, h1 x hx⟩) h2 i hi, ?_⟩
        rw [rd_at ws i (by omega) (by omega)]
        rfl
    refine ⟨risen_ext _ _ (words_risen _) hr (fun t => by rw [mem_words]; exact hin t), ?_, h3, List.length_map _, fun t ht => (hin t).1 ht⟩
    unfold numsP
    show (nums.map (fun x => rdOf ByteArray.empty ws x)).map (fun s => (posP ws s : Int)) = nums
    rw [List.map_map]
    conv => rhs; rw [← List.map_id nums]
    apply List.map_congr_left
    intro x hx
    show (posP ws (rdOf ByteArray.empty ws x) : Int) = x
    rw [rd_at ws x (h0 x hx) (h1 x hx), posP_at hr x.toNat (by have := h1 x hx; have := h0 x hx; omega)]
    exact Int.toNat_of_nonneg (h0 x hx)
  · rw [if_neg hc] at h
    simp at h
theorem numsP_range (ws l : List ByteArray) (hm : ∀ t ∈ l, t ∈ ws) : ∀ x ∈ numsP ws l, 0 ≤ x ∧ x < ws.length := by
  intro x hx
  unfold numsP at hx
  rw [List.mem_map] at hx
  obtain ⟨s, hs, rfl⟩ := hx
  have := posP_lt (hm s hs)
  omega
theorem chooseP_back (l : List ByteArray) : chooseP (wordsP l) (numsP (wordsP l) l) (widthP (numsP (wordsP l) l) : Nat) = (l, 0) := by
  have hm : ∀ t ∈ l, t ∈ wordsP l := fun t ht => (mem_words l t).2 ht
  have hr := numsP_range (wordsP l) l hm
  unfold chooseP
  rw [if_pos]
  · rw [Prod.ext_iff]
    refine ⟨?_, rfl⟩
    show (numsP (wordsP l) l).map (fun x => rdOf ByteArray.empty (wordsP l) x) = l
    unfold numsP
    rw [List.map_map]
    conv => rhs; rw [← List.map_id l]
    apply List.map_congr_left
    intro t ht
    have hl := posP_lt (hm t ht)
    show rdOf ByteArray.empty (wordsP l) (posP (wordsP l) t : Int) = t
    rw [rd_at _ _ (by omega) (by omega)]
    exact posP_get (hm t ht)
  · refine ⟨fun x hx => (hr x hx).2, uniq_full _ _ hr ?_, rfl⟩
    intro i hi
    unfold numsP
    rw [List.mem_map]
    refine ⟨(wordsP l)[i], (mem_words l _).1 (List.getElem_mem _), ?_⟩
    rw [posP_at (words_risen l) i hi]
theorem dictB_eq (l : List ByteArray) (ws : List ByteArray) (nums : List Int) (w : Nat) (e1 : wordsP l = ws) (e2 : numsP ws l = nums) (e3 : widthP nums = w) (hw : w ≤ 64) :
    dictB l = uintB ws.length ++ putB ws ++ [(w : Int)] ++ packB (allBits w nums) := by
  unfold dictB
  rw [e1, e2, e3, bytes_packB, show (w : Int) % 256 = w by omega]
theorem chosenP_only (n : Nat) (c : Cur) (h : (chosenP n c).1.2 = 0) :
    c.2 = 0 ∧ (chosenP n c).2.2 = 0 ∧ (chosenP n c).1.1.length = n ∧ (∀ t ∈ (chosenP n c).1.1, t.size ≤ 64) ∧ bytesOf c.1 = dictB (chosenP n c).1.1 ++ bytesOf (chosenP n c).2.1 := by
  unfold chosenP at h ⊢
  by_cases h0 : (getOrdP c).1.2 = 0
  · rw [if_pos h0] at h ⊢
    have ho := getOrdP_only c h0
    by_cases h1 : (numP n (getOrdP c).2).1.2.2 = 0
    · rw [if_pos h1] at h ⊢
      obtain ⟨hn1, hn2, w, hw, hw64, hlen, hrng, hby⟩ := numP_only n (getOrdP c).2 h1
      have hch := chooseP_only (getOrdP c).1.1 (numP n (getOrdP c).2).1.1 (numP n (getOrdP c).2).1.2.1 ho.2.2.1 (fun x hx => (hrng x hx).1) h
      have hwn : widthP (numP n (getOrdP c).2).1.1 = w := by have := hch.2.2.1; rw [hw] at this; omega
      refine ⟨ho.1, hn2, hch.2.2.2.1.trans hlen, fun t ht => ho.2.2.2.2.1 t (hch.2.2.2.2 t ht), ?_⟩
      have hd := dictB_eq (chooseP (getOrdP c).1.1 (numP n (getOrdP c).2).1.1 (numP n (getOrdP c).2).1.2.1).1 _ _ w hch.1 hch.2.1 hwn hw64
      show bytesOf c.1 = dictB (chooseP (getOrdP c).1.1 (numP n (getOrdP c).2).1.1 (numP n (getOrdP c).2).1.2.1).1 ++ bytesOf (numP n (getOrdP c).2).2.1
      rw [hd, ho.2.2.2.2.2, hby]
      simp only [List.append_assoc, List.cons_append, List.nil_append]
    · rw [if_neg h1] at h
      exact absurd h h1
  · rw [if_neg h0] at h
    exact absurd h h0
theorem nums_facts (l : List ByteArray) (hl : l.length ≤ 65536) : widthP (numsP (wordsP l) l) ≤ 64 ∧ ∀ x ∈ numsP (wordsP l) l, 0 ≤ x ∧ x < 2 ^ widthP (numsP (wordsP l) l) := by
  have hr := numsP_range (wordsP l) l (fun t ht => (mem_words l t).2 ht)
  have hwl := wordsP_le l
  refine ⟨(widthP_le _ _).2 (fun x hx => ?_), fun x hx => ?_⟩
  · have := hr x hx
    show x.toNat < 18446744073709551616
    omega
  · have h1 := (widthP_le _ _).1 (Nat.le_refl (widthP (numsP (wordsP l) l))) x hx
    have h2 := Int.ofNat_lt.2 h1
    have h0 := (hr x hx).1
    rw [Int.toNat_of_nonneg h0] at h2
    refine ⟨h0, ?_⟩
    simpa using h2
theorem chosenP_back (l : List ByteArray) (s r : ByteArray) (hl : l.length ≤ 65536) (hs : ∀ t ∈ l, t.size ≤ 64) (h : bytesOf s = dictB l ++ bytesOf r) : chosenP l.length (s, 0) = ((l, 0), (r, 0)) := by
  have hf := nums_facts l hl
  rw [dictB_eq l _ _ _ rfl rfl rfl hf.1, List.append_assoc, List.append_assoc] at h
  obtain ⟨z, hz⟩ : ∃ z, bytesOf z = [((widthP (numsP (wordsP l) l) : Nat) : Int)] ++ (packB (allBits (widthP (numsP (wordsP l) l)) (numsP (wordsP l) l)) ++ bytesOf r) := bytes_split h
  rw [← hz] at h
  have ho := getOrdP_back (wordsP l) s z (fun t ht => hs t ((mem_words l t).1 ht)) (Nat.le_trans (wordsP_le l) hl) (words_risen l) h
  have hn := numP_back z r _ (numsP (wordsP l) l) hf.1 hf.2 (by rw [hz]; rfl)
  have hnl : (numsP (wordsP l) l).length = l.length := by unfold numsP; rw [List.length_map]
  rw [hnl] at hn
  unfold chosenP
  rw [ho, if_pos rfl]
  show (if (numP l.length (z, 0)).1.2.2 = 0 then _ else _) = _
  rw [hn, if_pos rfl]
  show ((chooseP (wordsP l) (numsP (wordsP l) l) (widthP (numsP (wordsP l) l) : Nat), (r, (0 : Int)))) = _
  rw [chooseP_back]
def IsB (X : List Int) : Prop := ∀ x ∈ X, 0 ≤ x ∧ x < 256
theorem IsB.app {X Y : List Int} (h1 : IsB X) (h2 : IsB Y) : IsB (X ++ Y) := fun x hx => (List.mem_append.1 hx).elim (h1 x) (h2 x)
theorem IsB.one {x : Int} (h : 0 ≤ x ∧ x < 256) : IsB [x] := fun y hy => by rw [List.mem_singleton] at hy; rw [hy]; exact h
theorem IsB.bytes (s : ByteArray) : IsB (bytesOf s) := fun x hx => by
  unfold bytesOf at hx
  rw [List.mem_map] at hx
  obtain ⟨b, _, rfl⟩ := hx
  exact byte_range b
theorem IsB.big (x : Int) : ∀ m, IsB (bigB x m)
  | 0 => fun y hy => by cases hy
  | m + 1 => fun y hy => by
    rw [bigB] at hy
    rcases List.mem_cons.1 hy with rfl | hy
    · omega
    · exact IsB.big x m y hy
theorem IsB.uint (n : Int) (h : 0 ≤ n) : IsB (uintB n) := by
  unfold uintB
  by_cases h1 : n < 64
  · rw [if_pos h1]; exact IsB.one (by omega)
  · rw [if_neg h1]
    by_cases h2 : n < 16384
    · rw [if_pos h2]; exact IsB.big _ _
    · rw [if_neg h2]
      by_cases h3 : n < 1073741824
      · rw [if_pos h3]; exact IsB.big _ _
      · rw [if_neg h3]; exact IsB.app (X := [192]) (IsB.one (by decide)) (IsB.big n 8)
theorem IsB.put : ∀ l : List ByteArray, IsB (putB l)
  | [] => fun y hy => by cases hy
  | t :: l => by
    rw [putB_cons]
    unfold textB
    exact ((IsB.uint _ (by omega)).app (IsB.bytes t)).app (IsB.put l)
theorem IsB.back : ∀ {X : List Int}, IsB X → bytesOf (strOfNums X) = X := by
  intro X h
  unfold bytesOf
  rw [strOfNums_data, List.map_map]
  conv => rhs; rw [← List.map_id X]
  apply List.map_congr_left
  intro x hx
  have := h x hx
  show ((UInt8.ofNat x.toNat).toNat : Int) = x
  rw [UInt8.toNat_ofNat']
  omega
theorem IsB.dict (l : List ByteArray) : IsB (dictB l) := by
  unfold dictB
  exact (((IsB.uint _ (by omega)).app (IsB.put _)).app (IsB.one (by omega))).app (IsB.bytes _)
theorem longP_iff (l : List ByteArray) : longP l = false ↔ l.length ≤ 65536 ∧ ∀ t ∈ l, t.size ≤ 64 := by
  unfold longP longT
  simp
theorem size_nil {s : ByteArray} (h : s.size = 0) : bytesOf s = [] := List.eq_nil_of_length_eq_zero (by rw [bytesOf_length, h])
theorem doneP_only (c : Cur) (h : doneP c = 0) : c.2 = 0 ∧ bytesOf c.1 = [] := by
  unfold doneP at h
  by_cases h0 : c.2 = 0 ∧ c.1.size ≠ 0
  · rw [if_pos h0] at h; simp at h
  · rw [if_neg h0] at h
    exact ⟨h, size_nil (Decidable.byContradiction fun hn => h0 ⟨h, hn⟩)⟩
theorem readP_only (s : ByteArray) (h : (readP s).2 = 0) : withP (readP s).1 (byteP (s, 0)).1 = (s, 0) ∧ longP (readP s).1 = false ∧ bytesOf s ≠ [] := by
  unfold readP at h ⊢
  by_cases h0 : (byteP (s, 0)).2.2 = 0 ∧ (byteP (s, 0)).1 ≥ 2
  · rw [if_pos h0] at h; simp at h
  rw [if_neg h0] at h ⊢
  by_cases h1 : (countP (byteP (s, 0)).2).1.2 = 0
  · rw [if_pos h1] at h ⊢
    have hc := countP_only _ h1
    have hb := byteP_only (s, 0) hc.1
    have hbr := byteP_range (s, 0)
    have hb2 : (byteP (s, 0)).1 = 0 ∨ (byteP (s, 0)).1 = 1 := by have := hc.1; omega
    generalize hcc : (countP (byteP (s, 0)).2).2 = c at *
    generalize hnn : (countP (byteP (s, 0)).2).1.1 = n at *
    by_cases h2 : (bodyP (byteP (s, 0)).1 n.toNat c).1.2 = 0
    · rw [if_pos h2] at h ⊢
      by_cases h3 : doneP (bodyP (byteP (s, 0)).1 n.toNat c).2 = 0
      · rw [if_pos h3]
        have hd := doneP_only _ h3
        have hs : bytesOf s = (byteP (s, 0)).1 :: (uintB n ++ bytesOf c.1) := by rw [← hc.2.2.1]; exact hb.2
        have hne : bytesOf s ≠ [] := by rw [hs]; exact List.cons_ne_nil _ _
        rcases hb2 with e | e
        · rw [e] at h2 hd hs ⊢
          have hbody : bodyP 0 n.toNat c = getP n.toNat [] c := if_neg (by decide)
          rw [hbody] at h2 hd ⊢
          obtain ⟨m, g1, g2, g3, g4, g5⟩ := getP_only n.toNat [] c hc.2.1 h2
          rw [List.nil_append] at g1
          rw [hd.2, List.append_nil] at g4
          have hlong : longP m = false := (longP_iff m).2 ⟨by omega, g3⟩
          show withP (getP n.toNat [] c).1.1 0 = (s, 0) ∧ longP (getP n.toNat [] c).1.1 = false ∧ _
          rw [g1]
          refine ⟨?_, hlong, hne⟩
          unfold withP
          rw [if_neg (by decide), hlong, if_neg (by decide), if_pos rfl, g2, Int.toNat_of_nonneg hc.2.2.2.1]
          rw [g4] at hs
          rw [Prod.ext_iff]
          refine ⟨?_, rfl⟩
          show strOfNums ([0] ++ uintB n ++ putB m) = s
          rw [← bytes_bk s, hs]
          rfl
        · rw [e] at h2 hd hs ⊢
          have hbody : bodyP 1 n.toNat c = chosenP n.toNat c := if_pos rfl
          rw [hbody] at h2 hd ⊢
          obtain ⟨g1, g5, g2, g3, g4⟩ := chosenP_only n.toNat c h2
          rw [hd.2, List.append_nil] at g4
          have hlong : longP (chosenP n.toNat c).1.1 = false := (longP_iff _).2 ⟨by omega, g3⟩
          show withP (chosenP n.toNat c).1.1 1 = (s, 0) ∧ longP (chosenP n.toNat c).1.1 = false ∧ _
          refine ⟨?_, hlong, hne⟩
          unfold withP
          rw [if_neg (by decide), hlong, if_neg (by decide), if_neg (by decide), g2, Int.toNat_of_nonneg hc.2.2.2.1]
          rw [g4] at hs
          rw [Prod.ext_iff]
          refine ⟨?_, rfl⟩
          show strOfNums ([1] ++ uintB n ++ dictB (chosenP n.toNat c).1.1) = s
          conv => rhs; rw [← bytes_bk s, hs]
          rfl
      · rw [if_neg h3] at h
        exact absurd h h3
    · rw [if_neg h2] at h
      exact absurd h h2
  · rw [if_neg h1] at h
    exact absurd h h1
theorem readP_nil (s : ByteArray) (h : (readP s).2 ≠ 0) : (readP s).1 = [] := by
  unfold readP at h ⊢
  by_cases h0 : (byteP (s, 0)).2.2 = 0 ∧ (byteP (s, 0)).1 ≥ 2
  · rw [if_pos h0]
  rw [if_neg h0] at h ⊢
  by_cases h1 : (countP (byteP (s, 0)).2).1.2 = 0
  · rw [if_pos h1] at h ⊢
    by_cases h2 : (bodyP (byteP (s, 0)).1 (countP (byteP (s, 0)).2).1.1.toNat (countP (byteP (s, 0)).2).2).1.2 = 0
    · rw [if_pos h2] at h ⊢
      by_cases h3 : doneP (bodyP (byteP (s, 0)).1 (countP (byteP (s, 0)).2).1.1.toNat (countP (byteP (s, 0)).2).2).2 = 0
      · rw [if_pos h3] at h; exact absurd rfl h
      · rw [if_neg h3]
    · rw [if_neg h2]
  · rw [if_neg h1]
theorem read_of (l : List ByteArray) (s : ByteArray) (b : Int) (body : List Int) (hb : b = 0 ∨ b = 1) (hl : l.length ≤ 65536) (h : bytesOf s = [b] ++ uintB l.length ++ body)
    (hbody : ∀ z : ByteArray, bytesOf z = body → ∃ r : ByteArray, r.size = 0 ∧ bodyP b l.length (z, 0) = ((l, 0), (r, 0))) : readP s = (l, 0) := by
  rw [List.append_assoc] at h
  obtain ⟨z1, hz1⟩ : ∃ z, bytesOf z = uintB l.length ++ body := bytes_split h
  obtain ⟨z2, hz2⟩ : ∃ z, bytesOf z = body := bytes_split hz1
  have h1 := byteP_back s z1 b (by rw [h, hz1]; rfl)
  have h2 := countP_back z1 z2 l.length hl (by rw [hz1, hz2])
  obtain ⟨r, hr, h3⟩ := hbody z2 hz2
  have h4 : doneP (r, 0) = 0 := by unfold doneP; rw [if_neg (fun e => e.2 hr)]
  unfold readP
  rw [h1]
  dsimp only
  rw [if_neg (by omega), h2]
  dsimp only
  rw [if_pos rfl, Int.toNat_natCast, h3]
  dsimp only
  rw [if_pos rfl, h4, if_pos rfl]
theorem readP_back (l : List ByteArray) (codec : Int) (h : (withP l codec).2 = 0) : readP (withP l codec).1 = (l, 0) := by
  unfold withP at h ⊢
  by_cases h0 : codec < 0 ∨ 1 < codec
  · rw [if_pos h0] at h; simp at h
  rw [if_neg h0] at h ⊢
  by_cases h1 : longP l = true
  · rw [if_pos h1] at h; simp at h
  rw [if_neg h1] at h ⊢
  have hlong := (longP_iff l).1 (by simpa using h1)
  by_cases h2 : codec = 0
  · rw [if_pos h2]
    refine read_of l _ 0 (putB l) (.inl rfl) hlong.1 (IsB.back (((IsB.one (by decide)).app (IsB.uint _ (by omega))).app (IsB.put l))) ?_
    intro z hz
    refine ⟨⟨#[]⟩, rfl, ?_⟩
    have := getP_back l [] z ⟨#[]⟩ hlong.2 (by rw [hz]; exact (List.append_nil _).symm)
    rw [List.nil_append] at this
    exact (if_neg (by decide)).trans this
  · rw [if_neg h2]
    refine read_of l _ 1 (dictB l) (.inr rfl) hlong.1 (IsB.back (((IsB.one (by decide)).app (IsB.uint _ (by omega))).app (IsB.dict l))) ?_
    intro z hz
    refine ⟨⟨#[]⟩, rfl, ?_⟩
    have := chosenP_back l z ⟨#[]⟩ hlong.1 hlong.2 (by rw [hz]; exact (List.append_nil _).symm)
    exact (if_pos rfl).trans this
end Go.Proofs.Ytimjafjicnlhfaa.A
