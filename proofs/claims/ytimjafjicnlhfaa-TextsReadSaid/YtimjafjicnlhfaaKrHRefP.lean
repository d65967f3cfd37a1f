/- The reference's pick as a plain function. -/
import Derived.Test.YtimjafjicnlhfaaKrAx0
import Derived.Test.YtimjafjicnlhfaaKrHRefK
import Derived.Test.YtimjafjicnlhfaaKrHRefV
import Derived.Test.YtimjafjicnlhfaaKrBxPick
namespace Go.Proofs.Ytimjafjicnlhfaa.A
open Go.RowKit Go.Proofs.YtimjafjicnlhfaaW.PrintWords Go.Proofs.YtimjafjicnlhfaaW.PrintLast Go.Proofs.YtimjafjicnlhfaaW.PrintMore
set_option linter.unusedVariables false
set_option linter.unusedSimpArgs false
def pickP (d : List ByteArray) (n : Nat) (c : Cur) : List ByteArray × Int := if (numP n c).1.2.2 = 0 then chooseP d (numP n c).1.1 (numP n c).1.2.1 else ([], (numP n c).1.2.2)
def markP (len : Nat) (l : List Int) : List Bool := l.foldl (fun u x => u.set x.toNat true) (List.replicate len false)
theorem mark_aux : ∀ (l : List Int) (u : List Bool), (∀ x ∈ l, 0 ≤ x) → (l.foldl (fun u x => u.set x.toNat true) u).length = u.length ∧ ∀ (i : Nat) (h : i < u.length) (h2 : i < (l.foldl (fun u x => u.set x.toNat true) u).length), (l.foldl (fun u x => u.set x.toNat true) u)[i] = (u[i] || decide ((i : Int) ∈ l))
  | [], u, _ => ⟨rfl, fun i h h2 => by simp⟩
  | x :: l, u, hx => by
    have ih := mark_aux l (u.set x.toNat true) (fun y hy => hx y (List.mem_cons_of_mem _ hy))
    have hx0 := hx x (List.mem_cons_self ..)
    simp only [List.foldl_cons]
    refine ⟨by rw [ih.1, List.length_set], fun i h h2 => ?_⟩
    rw [ih.2 i (by rw [List.length_set]; exact h) h2, List.getElem_set]
    by_cases hxi : x.toNat = i
    · rw [if_pos hxi]
      have : (i : Int) ∈ x :: l := by rw [show (i : Int) = x by omega]; exact List.mem_cons_self ..
      simp [this]
    · rw [if_neg hxi]
      have : ((i : Int) ∈ x :: l) ↔ (i : Int) ∈ l := by
        rw [List.mem_cons]
        exact ⟨fun h => h.resolve_left (fun e => hxi (by omega)), .inr⟩
      simp only [this]
theorem mark_len (len : Nat) (l : List Int) (h : ∀ x ∈ l, 0 ≤ x) : (markP len l).length = len := by
  have := (mark_aux l (List.replicate len false) h).1
  rwa [List.length_replicate] at this
theorem mark_at (len : Nat) (l : List Int) (h : ∀ x ∈ l, 0 ≤ x) (i : Nat) (hi : i < len) (h2 : i < (markP len l).length) : (markP len l)[i] = decide ((i : Int) ∈ l) := by
  have := (mark_aux l (List.replicate len false) h).2 i (by rw [List.length_replicate]; exact hi) h2
  unfold markP
  rw [this, List.getElem_replicate, Bool.false_or]
theorem mark_snoc (len : Nat) (l : List Int) (x : Int) : markP len (l ++ [x]) = (markP len l).set x.toNat true := by
  unfold markP
  rw [List.foldl_append]
  rfl
theorem pick_l1 (w : Nat) (nums : List Int) (hu : U64 nums) (hn : nums.length ≤ 65536) (used : List Bool) (hul : used.length ≤ 65536) (out : List ByteArray) (S : ByteArray) (a e : Int) : ∀ (d k j : Nat), j + d = used.length → d + 200000 < k →
    tithebarnref05_pick.l1 k (w : Int) nums used out (j : Int) S a e = some (if (∀ (i : Nat) (h : i < used.length), j ≤ i → used[i] = true) ∧ ((widthP nums : Nat) : Int) = (w : Int) then (out, 0, S, a, e) else (([] : List ByteArray), 4, S, a, e)) := by
  intro d
  induction d with
  | zero =>
    intro k j hj hk
    obtain ⟨k, rfl⟩ : ∃ m, k = m + 1 := ⟨k - 1, by omega⟩
    rw [tithebarnref05_pick.l1, if_neg (by omega), width3_f k nums hu (by omega) (by omega), Option.bind_some]
    by_cases hw : ((widthP nums : Nat) : Int) = (w : Int)
    · rw [if_pos hw, if_pos ⟨fun i h hji => by omega, hw⟩]
    · rw [if_neg hw, if_neg (fun h => hw h.2)]
  | succ d ih =>
    intro k j hj hk
    obtain ⟨k, rfl⟩ : ∃ m, k = m + 1 := ⟨k - 1, by omega⟩
    have hjl : j < used.length := by omega
    have hrd : rdOf false used (j : Int) = used[j] := by simp [rdOf, hjl]
    rw [tithebarnref05_pick.l1, if_pos (by omega), if_pos (by omega), hrd]
    by_cases hb : used[j] = true
    · rw [if_pos hb, wr_one j (by omega), ih k (j + 1) (by omega) (by omega)]
      congr 1
      by_cases hc : (∀ (i : Nat) (h : i < used.length), j + 1 ≤ i → used[i] = true) ∧ ((widthP nums : Nat) : Int) = (w : Int)
      · rw [if_pos hc, if_pos ⟨fun i h hji => by
          rcases Nat.lt_or_ge j i with h1 | h1
          · exact hc.1 i h h1
          · obtain rfl : i = j := by omega
            exact hb, hc.2⟩]
      · rw [if_neg hc, if_neg (fun h => hc ⟨fun i hi hji => h.1 i hi (by omega), h.2⟩)]
    · rw [if_neg hb, if_neg (fun h => hb (h.1 j hjl (Nat.le_refl _)))]
theorem used_iff (d : List ByteArray) (nums : List Int) (h0 : ∀ x ∈ nums, 0 ≤ x ∧ x < d.length) : (∀ (i : Nat) (h : i < (markP d.length nums).length), 0 ≤ i → (markP d.length nums)[i] = true) ↔ (uniq nums).length = d.length := by
  have hl := mark_len d.length nums (fun x hx => (h0 x hx).1)
  constructor
  · intro h
    refine uniq_full nums d.length h0 (fun i hi => ?_)
    have h1 := h i (by rw [hl]; exact hi) (Nat.zero_le _)
    rw [mark_at d.length nums (fun x hx => (h0 x hx).1) i hi (by rw [hl]; exact hi)] at h1
    exact of_decide_eq_true h1
  · intro h i hi _
    rw [hl] at hi
    rw [mark_at d.length nums (fun x hx => (h0 x hx).1) i hi (by rw [hl]; exact hi)]
    exact decide_eq_true (uniq_covers nums d.length h0 h i hi)
theorem u64_len (n : Nat) (h : n ≤ 65536) : IntKind.u64.wrap (n : Int) = (n : Int) := IntWalk.u64_in _ (by omega)
theorem pick_l0 (w : Nat) (nums : List Int) (hu : U64 nums) (hn : nums.length ≤ 65536) (d : List ByteArray) (hd : d.length ≤ 65536) (S : ByteArray) (a e : Int) : ∀ (q k i : Nat), i + q = nums.length → q + 400000 < k → (∀ x ∈ nums.take i, x < d.length) →
    tithebarnref05_pick.l0 k (nums.length : Int) d (w : Int) nums (markP d.length (nums.take i)) ((nums.take i).map (fun x => rdOf ByteArray.empty d x)) (i : Int) S a e = some ((chooseP d nums (w : Int)).1, (chooseP d nums (w : Int)).2, S, a, e) := by
  have hpos : ∀ m, ∀ x ∈ nums.take m, 0 ≤ x := fun m x hx => (hu x (List.mem_of_mem_take hx)).1
  intro q
  induction q with
  | zero =>
    intro k i hi hk hx
    obtain ⟨k, rfl⟩ : ∃ m, k = m + 1 := ⟨k - 1, by omega⟩
    have hie : nums.take i = nums := List.take_of_length_le (by omega)
    rw [hie] at hx ⊢
    have h0 : ∀ x ∈ nums, 0 ≤ x ∧ x < d.length := fun x h => ⟨(hu x h).1, hx x h⟩
    have hl := mark_len d.length nums (fun x hx => (h0 x hx).1)
    have h1 := pick_l1 w nums hu hn (markP d.length nums) (by omega) (nums.map (fun x => rdOf ByteArray.empty d x)) S a e d.length k 0 (by omega) (by omega)
    rw [tithebarnref05_pick.l0, if_neg (by omega)]
    refine h1.trans ?_
    unfold chooseP
    congr 1
    by_cases hc : (uniq nums).length = d.length ∧ ((widthP nums : Nat) : Int) = (w : Int)
    · rw [if_pos ⟨(used_iff d nums h0).2 hc.1, hc.2⟩, if_pos ⟨hx, hc.1, hc.2⟩]
    · rw [if_neg (fun h => hc ⟨(used_iff d nums h0).1 h.1, h.2⟩), if_neg (fun h => hc ⟨h.2.1, h.2.2⟩)]
  | succ q ih =>
    intro k i hi hk hx
    obtain ⟨k, rfl⟩ : ∃ m, k = m + 1 := ⟨k - 1, by omega⟩
    have hil : i < nums.length := by omega
    have hrd : rd nums (i : Int) = nums[i] := by simp [rd, hil]
    have hm : nums[i] ∈ nums := List.getElem_mem hil
    have hu0 := hu _ hm
    have htk : nums.take (i + 1) = nums.take i ++ [nums[i]] := by rw [List.take_add_one, List.getElem?_eq_getElem hil]; rfl
    have hl := mark_len d.length (nums.take i) (hpos i)
    rw [tithebarnref05_pick.l0, if_pos (by omega), if_pos (by omega), if_pos (by omega), hrd, u64_len _ hd]
    by_cases hlt : nums[i] < (d.length : Int)
    · have hmk : ((nums.take i).map (fun x => rdOf ByteArray.empty d x)).length ≤ 65536 := by rw [List.length_map, List.length_take]; omega
      rw [if_neg (by omega), if_pos hu0.1, if_pos (by rw [hl]; exact hlt), if_pos hlt, if_pos (by omega), wr_one i (by omega), ← mark_snoc, ← htk]
      have := ih k (i + 1) (by omega) (by omega) (fun x h => by
        rw [htk, List.mem_append, List.mem_singleton] at h
        rcases h with h | rfl
        · exact hx x h
        · exact hlt)
      rw [htk, List.map_append] at this
      rw [htk]
      exact this
    · rw [if_pos (by omega)]
      unfold chooseP
      rw [if_neg (fun h => hlt (h.1 _ hm))]
theorem need_wr (n b : Nat) (hn : n ≤ 65536) (hb : b ≤ 64) : wrap64 (Int.tdiv (wrap64 (wrap64 ((n : Int) * (b : Int)) + 7)) 8) = ((needP n b : Nat) : Int) := by
  have hm : n * b ≤ 4194304 := Nat.le_trans (Nat.mul_le_mul hn hb) (by decide)
  unfold needP
  rw [← Int.natCast_mul]
  generalize n * b = m at *
  rw [wr_small (m : Int) (by omega) (by omega), wr_small ((m : Int) + 7) (by omega) (by omega), Int.tdiv_eq_ediv_of_nonneg (by omega), wr_small _ (by omega) (by omega)]
  omega
theorem numP_err (n : Nat) (c : Cur) (h : ¬ (byteP c).2.2 = 0) : numP n c = (([], 0, (byteP c).2.2), (byteP c).2) := by
  unfold numP
  rw [if_neg h]
theorem numP_wide (n : Nat) (c : Cur) (h : (byteP c).2.2 = 0) (h2 : (byteP c).1 > 64) : numP n c = (([], 0, 4), (byteP c).2) := by
  unfold numP
  rw [if_pos h, if_pos h2]
theorem numP_short (n : Nat) (c : Cur) (h : (byteP c).2.2 = 0) (w : Nat) (hw : (byteP c).1 = (w : Int)) (h2 : w ≤ 64) (S : ByteArray) (a : Nat) (hS : (byteP c).2.1 = S.extract a S.size) (h3 : S.size - a < needP n w) : numP n c = (([], 0, 2), (byteP c).2) := by
  unfold numP
  rw [if_pos h, hw, if_neg (show ¬ (w : Int) > 64 by omega), Int.toNat_natCast, hS, curAt_size, if_pos h3]
theorem numP_read (n : Nat) (c : Cur) (h : (byteP c).2.2 = 0) (w : Nat) (hw : (byteP c).1 = (w : Int)) (h2 : w ≤ 64) (S : ByteArray) (a m : Nat) (ha : a ≤ S.size) (hm : m = needP n w) (hS : (byteP c).2.1 = S.extract a S.size) (h3 : ¬ S.size - a < m) :
    numP n c = (((unpackP (S.extract a (a + m)) n w).1, (w : Int), (unpackP (S.extract a (a + m)) n w).2), curAt S (a + m) 0) := by
  subst hm
  have e2 : (S.extract a S.size).extract 0 (needP n w) = S.extract a (a + needP n w) := by
    rw [ByteArray.extract_extract]
    congr 1
    omega
  have e3 : (S.extract a S.size).extract (needP n w) (S.size - a) = S.extract (a + needP n w) S.size := by
    rw [← curAt_size S a]
    exact ext_ext S a (needP n w) ha
  unfold numP curAt
  rw [if_pos h, hw, if_neg (show ¬ (w : Int) > 64 by omega), Int.toNat_natCast, hS, curAt_size, if_neg h3, e2, e3]
theorem unpackP_len2 (s : ByteArray) (n w : Nat) (h : (unpackP s n w).2 = 0) : (unpackP s n w).1.length = n := by
  unfold unpackP at h ⊢
  split
  · exact getAll_length _ _ _
  · rename_i hf
    rw [if_neg hf] at h
    exact absurd h hf
theorem le_of_sub {a s m : Nat} (h : a ≤ s) (h7 : ¬ s - a < m) : a + m ≤ s := by omega
theorem wr_place (a m s : Nat) (h : a + m ≤ s) (hs : s ≤ 140737488351232) : wrap64 ((a : Int) + ((m : Nat) : Int)) = ((a + m : Nat) : Int) := by rw [wr_small _ (by omega) (by omega)]; omega
theorem not_lt_cast {x m : Nat} (h : ¬ x < m) : ¬ ((x : Nat) : Int) < ((m : Nat) : Int) := by omega
theorem lt_cast {x m : Nat} (h : x < m) : ((x : Nat) : Int) < ((m : Nat) : Int) := by omega
theorem unpack_fuel (n w k : Nat) (hn : n ≤ 65536) (hw : w ≤ 64) (hk : 20000000 ≤ k) : 2 * (n * w) + n * (w + 2) + 20 < k := by
  have hnw : n * w ≤ 65536 * 64 := Nat.mul_le_mul hn hw
  have hnw2 : n * (w + 2) ≤ 65536 * 66 := Nat.mul_le_mul hn (by omega)
  omega
theorem byte_nat (b : Int) (h : 0 ≤ b ∧ b ≤ 255) : ∃ w : Nat, b = (w : Int) := ⟨b.toNat, by omega⟩
theorem not_wide (b : Int) (w : Nat) (h : ¬ b > 64) (hw : b = (w : Int)) : w ≤ 64 := by omega
theorem pick_fuel (n k : Nat) (hn : n ≤ 65536) (hk : 20000000 ≤ k) : n + 400000 < k := by omega
theorem pick_f (k : Nat) (hk : 20000000 ≤ k) (S : ByteArray) (hs : Fit S) (a n : Nat) (ha : a ≤ S.size) (hn : n ≤ 65536) (d : List ByteArray) (hd : d.length ≤ 65536) :
    ∃ (a' : Nat) (e' : Int), a' ≤ S.size ∧ tithebarnref05_pick.f k S (a : Int) 0 (n : Int) d = some ((pickP d n (curAt S a 0)).1, (pickP d n (curAt S a 0)).2, S, (a' : Int), e') ∧ ((pickP d n (curAt S a 0)).2 = 0 → e' = 0 ∧ (numP n (curAt S a 0)).2 = curAt S a' 0) := by
  have hs' : S.size ≤ 140737488351232 := hs
  obtain ⟨a1, h1, h2, h3, h4⟩ := byte3_f S a hs ha 0
  have hbr := byteP_range (curAt S a 0)
  unfold tithebarnref05_pick.f
  rw [h3, Option.bind_some]
  simp only
  by_cases h5 : (byteP (curAt S a 0)).2.2 = 0
  · rw [if_pos h5, h5]
    by_cases h6 : (byteP (curAt S a 0)).1 > 64
    · rw [if_pos h6]
      have hnum := numP_wide n _ h5 h6
      unfold pickP
      rw [hnum]
      exact ⟨a1, 0, h2, rfl, fun h => absurd h (by simp)⟩
    · obtain ⟨w, hw⟩ := byte_nat _ hbr
      have hw64 : w ≤ 64 := not_wide _ w h6 hw
      rw [if_neg h6, left3_f S a1 0 hs h2, Option.bind_some, hw]
      simp only
      rw [need_wr n w hn hw64]
      obtain ⟨m, hm⟩ : ∃ m, m = needP n w := ⟨_, rfl⟩
      rw [← hm]
      by_cases h7 : S.size - a1 < m
      · have hnum := numP_short n _ h5 w hw hw64 S a1 h4 (hm ▸ h7)
        rw [if_pos (lt_cast h7)]
        unfold pickP
        rw [hnum]
        exact ⟨a1, 0, h2, rfl, fun h => absurd h (by simp)⟩
      · have hle := le_of_sub h2 h7
        have e1 := wr_place a1 m S.size hle hs'
        have hnum := numP_read n _ h5 w hw hw64 S a1 m h2 hm h4 h7
        have hfit : Fit (S.extract a1 (a1 + m)) := Nat.le_trans (extract_le _ _ _) hs
        have hun := unpack3_f k _ hfit n w hn hw64 (unpack_fuel n w k hn hw64 hk)
        have i1 : (0 : Int) ≤ (a1 : Int) := Int.natCast_nonneg a1
        have i2 : (a1 : Int) ≤ ((a1 + m : Nat) : Int) := Int.ofNat_le.2 (Nat.le_add_right a1 m)
        have i3 : ((a1 + m : Nat) : Int) ≤ (S.size : Int) := Int.ofNat_le.2 hle
        rw [if_neg (not_lt_cast h7), e1]
        simp only [if_pos i1, if_pos i2, if_pos i3, Int.toNat_natCast, hun, Option.bind_some]
        have hul := unpackP_u64 (S.extract a1 (a1 + m)) n w hw64
        have hll := unpackP_len2 (S.extract a1 (a1 + m)) n w
        unfold pickP
        rw [hnum]
        clear hnum hun e1 hm i1 i2 i3
        generalize unpackP (S.extract a1 (a1 + m)) n w = u at *
        by_cases h8 : u.2 = 0
        · have hlen := hll h8
          have i4 : (0 : Int) ≤ (d.length : Int) := Int.natCast_nonneg _
          have i5 : d.length ≤ 281474976710656 := Nat.le_trans hd (by decide)
          have h9 := pick_l0 w u.1 hul (by rw [hlen]; exact hn) d hd S ((a1 + m : Nat) : Int) 0 n k 0 (by rw [hlen]; exact Nat.zero_add n) (pick_fuel n k hn hk) (fun x hx => by simp at hx)
          rw [hlen] at h9
          simp only [List.take_zero, List.map_nil] at h9
          rw [show markP d.length [] = List.replicate d.length false from rfl, show ((0 : Nat) : Int) = 0 from rfl] at h9
          simp only [if_pos h8, if_pos i4, if_pos i5, h9]
          exact ⟨a1 + m, 0, hle, rfl, fun _ => ⟨rfl, rfl⟩⟩
        · simp only [if_neg h8]
          exact ⟨a1, 0, h2, rfl, fun h => absurd h h8⟩
  · have hnum := numP_err n _ h5
    rw [if_neg h5]
    unfold pickP
    rw [hnum]
    simp only [if_neg h5]
    exact ⟨a1, _, h2, rfl, fun h => absurd h h5⟩
end Go.Proofs.Ytimjafjicnlhfaa.A
