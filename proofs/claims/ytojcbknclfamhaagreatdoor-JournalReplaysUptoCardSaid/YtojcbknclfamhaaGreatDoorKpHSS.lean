/- frame.half: the table of half bytes. · frame.Sum: a text's sum, half a byte at a time. · kinds.Right: may a schema be? -/
import Derived.Test.YtojcbknclfamhaaGreatDoorKpAx0
import Derived.Laws.BytesArg
import Derived.Laws.BitsAllLaws
import Derived.Lib.ConvBytes
import Derived.Deep.DeepFit
import Derived.Shelf.Abstract
namespace Go.Proofs.YtojcbknclfamhaaGreatDoor.A
open Go.RowKit Go.Proofs.YtojcbknclfamhaaGreatDoorW.PrintWords Go.Proofs.YtojcbknclfamhaaGreatDoorW.PrintLast Go.Proofs.YtojcbknclfamhaaGreatDoorW.PrintMore
set_option linter.unusedVariables false
set_option linter.unusedSimpArgs false
def bitStep (r : Int) : Int := if (Go.bits .and .u32 r 1 == 1) = true then Go.bits .xor .u32 (r / 2) 2197175160 else r / 2
def bitSteps : Nat → Int → Int
  | 0, r => r
  | k + 1, r => bitStep (bitSteps k r)
def tabV (i : Nat) : Int := bitSteps 4 (i : Int)
def tabArr (i : Nat) : Array Value := ((List.range 16).map (fun j => Value.int .u32 (if j < i then tabV j else 0))).toArray
theorem tabArr_set : ∀ (i : Nat), i < 16 → (tabArr i).setIfInBounds i (.int .u32 (tabV i)) = tabArr (i + 1)
  | 0, _ => rfl
  | 1, _ => rfl
  | 2, _ => rfl
  | 3, _ => rfl
  | 4, _ => rfl
  | 5, _ => rfl
  | 6, _ => rfl
  | 7, _ => rfl
  | 8, _ => rfl
  | 9, _ => rfl
  | 10, _ => rfl
  | 11, _ => rfl
  | 12, _ => rfl
  | 13, _ => rfl
  | 14, _ => rfl
  | 15, _ => rfl
  | n + 16, h => absurd h (by omega)
theorem tabArr_at (i j : Nat) (h : j < 16) : (tabArr i)[j]? = some (.int .u32 (if j < i then tabV j else 0)) := by
  simp [tabArr, h]
theorem tabArr_zero : tabArr 0 = #[.int .u32 0, .int .u32 0, .int .u32 0, .int .u32 0, .int .u32 0, .int .u32 0, .int .u32 0, .int .u32 0, .int .u32 0, .int .u32 0, .int .u32 0, .int .u32 0, .int .u32 0, .int .u32 0, .int .u32 0, .int .u32 0] := rfl
theorem tabArr_full : tabArr 16 = #[.int .u32 (tabV 0), .int .u32 (tabV 1), .int .u32 (tabV 2), .int .u32 (tabV 3), .int .u32 (tabV 4), .int .u32 (tabV 5), .int .u32 (tabV 6), .int .u32 (tabV 7), .int .u32 (tabV 8), .int .u32 (tabV 9), .int .u32 (tabV 10), .int .u32 (tabV 11), .int .u32 (tabV 12), .int .u32 (tabV 13), .int .u32 (tabV 14), .int .u32 (tabV 15)] := rfl
set_option maxHeartbeats 8000000 in
set_option maxRecDepth 100000 in
theorem half.calls (w : World) :
    Calls Tryz.prog 86 #[] w fun e w' => e = .returned (.agg (tabArr 16)) ∧ Below w.heap.size w w' := by
  have hu := Tryz.underlying126
  have hu2 := Tryz.underlying84
  go_enter Tryz.func86, Tryz.ntmps86
  go_wp2
  have k0 := blk_new w (.cells (tabArr 0) 126)
  rw [tabArr_zero] at k0
  have k0' := ((below_alloc (Below.refl _ _) (.cells (tabArr 0) 126) : Below (w.alloc (.cells (tabArr 0) 126)).heap.size (w.alloc (.cells (tabArr 0) 126)) _).block w.heap.size (by simp)).trans (blk_new w (.cells (tabArr 0) 126))
  have k1 := blk_new (w.alloc (.cells (tabArr 0) 126)) (.cells (tabArr 0) 126)
  have hbel : Below w.heap.size w ((w.alloc (.cells (tabArr 0) 126)).alloc (.cells (tabArr 0) 126)) := ((Below.refl _ _).alloc (Nat.le_refl _) _).alloc (by simp) _
  have hsz : (w.alloc (.cells (tabArr 0) 126)).heap.size = w.heap.size + 1 := by simp
  rw [hsz] at k1
  clear k0 hsz
  rw [show (#[.int .u32 0, .int .u32 0, .int .u32 0, .int .u32 0, .int .u32 0, .int .u32 0, .int .u32 0, .int .u32 0, .int .u32 0, .int .u32 0, .int .u32 0, .int .u32 0, .int .u32 0, .int .u32 0, .int .u32 0, .int .u32 0] : Array Value) = tabArr 0 from rfl]
  have K0 := Aside0.mk k0'; have K1 := Aside0.mk k1; have HB := Aside0.mk hbel
  clear k0' k1 hbel
  generalize (w.alloc (.cells (tabArr 0) 126)).alloc (.cells (tabArr 0) 126) = w1 at *
  go_loopg [4] 16 (fun gg s4 wr => ∃ i : Nat, i ≤ 16 ∧ 16 - i ≤ gg ∧ s4 = .int .i64 i ∧ Aside0 (wr.heap[w.heap.size]? = some (.cells (tabArr 0) 126 (0, 0))) ∧ Aside0 (wr.heap[w.heap.size + 1]? = some (.cells (tabArr i) 126 (0, 0))) ∧ Aside0 (Below w.heap.size w wr))
  case atStart => exact ⟨0, by omega, by omega, rfl, K0, K1, HB⟩
  case round =>
    clear K0 K1 HB
    obtain ⟨i, hi, hg, rfl, K0, K1, HB⟩ := hrel
    rename World => w2
    by_cases hlt : i < 16
    · have g1 : decide ((i : Int) < 16) = true := decide_eq_true (by omega)
      have g2 : decide (i < 16) = true := decide_eq_true (by omega)
      have HI := Aside0.mk (And.intro hi (And.intro hg hlt))
      have hcv : IntKind.u32.wrap (i : Int) = (i : Int) := by rw [IntKind.wrap_u32]; omega
      have hpi : IntKind.i64.wrap ((i : Int) + 1) = (i : Int) + 1 := IntWalk.i64_in _ (by omega)
      clear hi hg hlt
      go_wp2
      go_loopg [3, 9] 4 (fun gg s3 s9 wr2 => ∃ k : Nat, k ≤ 4 ∧ 4 - k ≤ gg ∧ s9 = .int .i64 k ∧ s3 = .int .u32 (bitSteps k (i : Int)) ∧ wr2 = w2)
      case atStart => exact ⟨0, by omega, by omega, rfl, rfl, rfl⟩
      case round =>
        obtain ⟨k, hk, hgk, rfl, rfl, rfl⟩ := hrel
        by_cases hk4 : k < 4
        · have g3 : decide ((k : Int) < 4) = true := decide_eq_true (by omega)
          have g4 : decide (k < 4) = true := decide_eq_true (by omega)
          have hpk : IntKind.i64.wrap ((k : Int) + 1) = (k : Int) + 1 := IntWalk.i64_in _ (by omega)
          have hs : bitSteps (k + 1) (i : Int) = bitStep (bitSteps k (i : Int)) := rfl
          have HS := Aside0.mk hs; have HK := Aside0.mk (And.intro hk (And.intro hgk hk4))
          clear hs hk hgk hk4
          generalize bitSteps k (i : Int) = r at *
          cases hb : (Go.bits .and .u32 r 1 == 1) with
          | true =>
            have hr : bitStep r = Go.bits .xor .u32 (r / 2) 2197175160 := if_pos hb
            have HR := Aside0.mk hr
            clear hr
            go_wp2
            go_roundg (4 - (k + 1))
            case measure => have := HK.out; omega
            case rel => exact ⟨k + 1, by have := HK.out; omega, by have := HK.out; omega, by push_cast; rfl, by rw [HS.out, HR.out], rfl⟩
          | false =>
            have hr : bitStep r = r / 2 := if_neg (by rw [hb]; decide)
            have HR := Aside0.mk hr
            clear hr
            go_wp2
            go_roundg (4 - (k + 1))
            case measure => have := HK.out; omega
            case rel => exact ⟨k + 1, by have := HK.out; omega, by have := HK.out; omega, by push_cast; rfl, by rw [HS.out, HR.out], rfl⟩
        · obtain rfl : k = 4 := by omega
          have g3 : decide (((4 : Nat) : Int) < 4) = false := by decide
          have y0 := (blk_cell K1.out i).trans (tabArr_at i i HI.out.2.2)
          have u0 := blk_frozen K1.out i
          have j0 : (0 : Int) ≤ (i : Int) := by omega
          have j1 : (i : Int) < 16 := by have := HI.out; omega
          have j0' := eq_true j0; have j1' := eq_true j1
          have htv : bitSteps 4 (i : Int) = tabV i := rfl
          rw [htv]
          clear htv
          generalize hv : tabV i = v at *
          have HV := Aside0.mk hv
          clear hv
          go_wp2
          go_roundg (16 - (i + 1))
          case measure => have := HI.out; omega
          case rel =>
            refine ⟨i + 1, by have := HI.out; omega, by have := HI.out; omega, by push_cast; rfl, ⟨blk_far (p := ⟨w.heap.size + 1, i, none⟩) K0.out (by simp) _⟩, ⟨?_⟩, ⟨HB.out.setCell (by simp) _⟩⟩
            have := blk_set K1.out i (.int .u32 v)
            rw [← HV.out, tabArr_set i HI.out.2.2] at this
            rw [← HV.out]
            exact this
    · obtain rfl : i = 16 := by omega
      have g1 : decide (((16 : Nat) : Int) < 16) = false := by decide
      have hh := K1.out
      rw [tabArr_full] at hh
      have hb0 := K0.out
      rw [tabArr_zero] at hb0
      have q0 := (blk_cell hh 0).trans rfl
      have q1 := (blk_cell hh 1).trans rfl
      have q2 := (blk_cell hh 2).trans rfl
      have q3 := (blk_cell hh 3).trans rfl
      have q4 := (blk_cell hh 4).trans rfl
      have q5 := (blk_cell hh 5).trans rfl
      have q6 := (blk_cell hh 6).trans rfl
      have q7 := (blk_cell hh 7).trans rfl
      have q8 := (blk_cell hh 8).trans rfl
      have q9 := (blk_cell hh 9).trans rfl
      have q10 := (blk_cell hh 10).trans rfl
      have q11 := (blk_cell hh 11).trans rfl
      have q12 := (blk_cell hh 12).trans rfl
      have q13 := (blk_cell hh 13).trans rfl
      have q14 := (blk_cell hh 14).trans rfl
      have q15 := (blk_cell hh 15).trans rfl
      have p0 := (blk_cell hb0 0).trans rfl
      have f0 := blk_frozen hb0 0
      have p1 := (blk_cell hb0 1).trans rfl
      have f1 := blk_frozen hb0 1
      have p2 := (blk_cell hb0 2).trans rfl
      have f2 := blk_frozen hb0 2
      have p3 := (blk_cell hb0 3).trans rfl
      have f3 := blk_frozen hb0 3
      have p4 := (blk_cell hb0 4).trans rfl
      have f4 := blk_frozen hb0 4
      have p5 := (blk_cell hb0 5).trans rfl
      have f5 := blk_frozen hb0 5
      have p6 := (blk_cell hb0 6).trans rfl
      have f6 := blk_frozen hb0 6
      have p7 := (blk_cell hb0 7).trans rfl
      have f7 := blk_frozen hb0 7
      have p8 := (blk_cell hb0 8).trans rfl
      have f8 := blk_frozen hb0 8
      have p9 := (blk_cell hb0 9).trans rfl
      have f9 := blk_frozen hb0 9
      have p10 := (blk_cell hb0 10).trans rfl
      have f10 := blk_frozen hb0 10
      have p11 := (blk_cell hb0 11).trans rfl
      have f11 := blk_frozen hb0 11
      have p12 := (blk_cell hb0 12).trans rfl
      have f12 := blk_frozen hb0 12
      have p13 := (blk_cell hb0 13).trans rfl
      have f13 := blk_frozen hb0 13
      have p14 := (blk_cell hb0 14).trans rfl
      have f14 := blk_frozen hb0 14
      have p15 := (blk_cell hb0 15).trans rfl
      have f15 := blk_frozen hb0 15
      clear hh hb0
      go_wp2
      refine bodyPost_ret (v := .agg (tabArr 16)) (by rw [tabArr_full]; simp [results, Tryz.results86, go_sem, p0, p1, p2, p3, p4, p5, p6, p7, p8, p9, p10, p11, p12, p13, p14, p15]) rfl ⟨rfl, ?_⟩
      iterate 16 refine Below.setCell ?_ (show w.heap.size ≤ w.heap.size from Nat.le_refl _) _
      exact HB.out
end Go.Proofs.YtojcbknclfamhaaGreatDoor.A
namespace Go.Proofs.YtojcbknclfamhaaGreatDoor.A
open Go.RowKit Go.Proofs.YtojcbknclfamhaaGreatDoorW.PrintWords Go.Proofs.YtojcbknclfamhaaGreatDoorW.PrintLast Go.Proofs.YtojcbknclfamhaaGreatDoorW.PrintMore
set_option linter.unusedVariables false
set_option linter.unusedSimpArgs false
theorem wraps_u32 (n : Int) (h₀ : 0 ≤ n) (h₁ : n < 2 ^ 32) : IntKind.u32.wrap n = n := by rw [IntKind.wrap_u32]; omega
theorem u32_and15 (x : Int) (h0 : 0 ≤ x) (h1 : x < 4294967296) : Go.bits .and .u32 x 15 = x % 16 := bits_mask .u32 32 (by decide) wraps_u32 4 (by decide) x h0 h1
theorem u32_and1 (x : Int) (h0 : 0 ≤ x) (h1 : x < 4294967296) : Go.bits .and .u32 x 1 = x % 2 := bits_mask .u32 32 (by decide) wraps_u32 1 (by decide) x h0 h1
theorem u32x_range (a b : Int) (ha : 0 ≤ a ∧ a < 4294967296) (hb : 0 ≤ b ∧ b < 4294967296) : 0 ≤ Go.bits .xor .u32 a b ∧ Go.bits .xor .u32 a b < 4294967296 := by
  obtain ⟨x, rfl⟩ : ∃ x : Nat, a = (x : Int) := ⟨a.toNat, by omega⟩
  obtain ⟨y, rfl⟩ : ∃ y : Nat, b = (y : Int) := ⟨b.toNat, by omega⟩
  have hx : x ^^^ y < 2 ^ 32 := Nat.xor_lt_two_pow (by omega) (by omega)
  rw [u32_xor_nat x y (by omega) (by omega)]
  omega
theorem bitStep_range (r : Int) (h : 0 ≤ r ∧ r < 4294967296) : 0 ≤ bitStep r ∧ bitStep r < 4294967296 := by
  unfold bitStep
  split
  · exact u32x_range _ _ (by omega) (by decide)
  · omega
theorem bitSteps_range (r : Int) (h : 0 ≤ r ∧ r < 4294967296) : ∀ k, 0 ≤ bitSteps k r ∧ bitSteps k r < 4294967296
  | 0 => h
  | k + 1 => bitStep_range _ (bitSteps_range r h k)
theorem tabV_range (i : Nat) (h : i < 16) : 0 ≤ tabV i ∧ tabV i < 4294967296 := bitSteps_range _ (by omega) 4
def halfStep (r : Int) : Int := Go.bits .xor .u32 (r / 16) (tabV (Go.bits .and .u32 r 15).toNat)
def sumStep (r : Int) (c : UInt8) : Int := halfStep (halfStep (Go.bits .xor .u32 r (c.toNat : Int)))
def sumF (l : List UInt8) : Int := l.foldl sumStep 4294967295
theorem halfStep_range (r : Int) (h : 0 ≤ r ∧ r < 4294967296) : 0 ≤ halfStep r ∧ halfStep r < 4294967296 := by
  unfold halfStep
  have hm := u32_and15 r h.1 h.2
  exact u32x_range _ _ (by omega) (tabV_range _ (by rw [hm]; omega))
theorem sumStep_range (r : Int) (c : UInt8) (h : 0 ≤ r ∧ r < 4294967296) : 0 ≤ sumStep r c ∧ sumStep r c < 4294967296 := by
  have hc := c.toNat_lt
  exact halfStep_range _ (halfStep_range _ (u32x_range _ _ h (by omega)))
theorem sum_range : ∀ (l : List UInt8) (r : Int), 0 ≤ r ∧ r < 4294967296 → 0 ≤ l.foldl sumStep r ∧ l.foldl sumStep r < 4294967296
  | [], r, h => h
  | c :: l, r, h => sum_range l _ (sumStep_range r c h)
theorem sumF_snoc (l : List UInt8) (j : Nat) (h : j < l.length) : sumF (l.take (j + 1)) = sumStep (sumF (l.take j)) l[j] := by
  unfold sumF
  rw [List.take_add_one, List.getElem?_eq_getElem h, List.foldl_append]
  rfl
theorem bytesY_below (w : World) (e : TypeId) (s : ByteArray) : Below w.heap.size w (Lib.bytesWorld w e s) := bytes_below (Below.refl _ _) (Nat.le_refl _) e s
theorem bytesW_at (w : World) (e : TypeId) (s : ByteArray) (j : Nat) (hj : j < s.size) : (Lib.bytesWorld w e s).cell? ⟨w.heap.size, j, none⟩ = some (.int .u8 ((s.data.toList[j]'hj).toNat : Int)) := by
  rw [Lib.bytesWorld_cell _ _ _ _ hj]
  simp [List.getD, List.getElem?_eq_getElem (show j < s.data.toList.length from hj)]
def frame_Sum.f (s : ByteArray) : Option Int := if s.size ≤ 140737488351232 then some (Go.bits .xor .u32 IntKind.u32.max (sumF s.data.toList)) else none
set_option maxHeartbeats 8000000 in
set_option maxRecDepth 100000 in
theorem frame_Sum.calls (a0 : ByteArray) (r : Int) (w : World) (h : frame_Sum.f a0 = some r) :
    Calls Tryz.prog 52 #[.string a0] w fun e w' => e = .returned (.int .u32 r) ∧ Below w.heap.size w w' := by
  unfold frame_Sum.f at h
  by_cases hs : a0.size ≤ 140737488351232
  rotate_left
  · rw [if_neg hs] at h; exact absurd h (by simp)
  rw [if_pos hs] at h
  have h := Option.some.inj h
  have HRES := Aside0.mk h
  have hu := Tryz.underlying126
  have hu2 := Tryz.underlying84
  clear h
  go_enter Tryz.func52, Tryz.ntmps52
  go_wp2_with (go_at_call 86; refine (half.calls _).mono ?_; rintro e w1 ⟨rfl, hb1⟩; rw [tabArr_full])
  rw [← tabArr_full]
  have ht := blk_new w1 (.cells (tabArr 16) 126)
  have hb2 : Below w.heap.size w (w1.alloc (.cells (tabArr 16) 126)) := hb1.alloc hb1.size _
  have hlt : w1.heap.size < (w1.alloc (.cells (tabArr 16) 126)).heap.size := by simp
  clear hb1
  generalize w1.alloc (.cells (tabArr 16) 126) = W1 at *
  generalize w1.heap.size = bt at *
  have hbl := bytesY_below W1 5 a0
  have hce := bytesW_at W1 5 a0
  have ht2 := (hbl.block bt hlt).trans ht
  have hb3 := hb2.trans (hbl.mono hb2.size)
  have HT := Aside0.mk ht2; have HC := Aside0.mk hce; have HB := Aside0.mk hb3
  clear ht ht2 hce hb2 hb3 hbl hlt
  rw [Lib.run_convert_string_bytes W1 9 94 5 _ Tryz.underlying9 Tryz.underlying94 Tryz.underlying5]
  generalize Lib.bytesWorld W1 5 a0 = W2 at *
  go_wp2_with fail
  go_loopg [4, 11] a0.size (fun gg s4 s11 wr => ∃ j : Nat, j ≤ a0.size ∧ a0.size - j ≤ gg ∧ s11 = .int .i64 j ∧ s4 = .int .u32 (sumF (a0.data.toList.take j)) ∧ wr = W2)
  case atStart => exact ⟨0, by omega, by omega, rfl, rfl, rfl⟩
  case round =>
    obtain ⟨j, hj, hgg, rfl, rfl, rfl⟩ := hrel
    by_cases hlt : j < a0.size
    · have hltz : decide ((j : Int) < (a0.size : Int)) = true := decide_eq_true (by omega)
      have hltn : decide (j < a0.size) = true := decide_eq_true hlt
      have hjT : ((j : Int) < (a0.size : Int)) = True := eq_true (by omega)
      have hj0 : ((0 : Int) ≤ (j : Int)) = True := eq_true (by omega)
      have hpj : IntKind.i64.wrap ((j : Int) + 1) = (j : Int) + 1 := IntWalk.i64_in _ (by omega)
      have hcz := HC.out j hlt
      have hst := sumF_snoc a0.data.toList j hlt
      have hrg := sum_range (a0.data.toList.take j) 4294967295 (by decide)
      have hrg : 0 ≤ sumF (a0.data.toList.take j) ∧ sumF (a0.data.toList.take j) < 4294967296 := hrg
      have hcl := (a0.data.toList[j]'hlt).toNat_lt
      generalize sumF (a0.data.toList.take j) = r0 at *
      obtain ⟨c, hc⟩ : ∃ c : Int, c = (((a0.data.toList[j]'hlt).toNat : Nat) : Int) := ⟨_, rfl⟩
      unfold sumStep at hst
      rw [← hc] at hcz hst
      have hcr : 0 ≤ c ∧ c < 256 := by omega
      have hcw : IntKind.u32.wrap c = c := wraps_u32 c (by omega) (by omega)
      obtain ⟨r1, hr1⟩ : ∃ r1, Go.bits .xor .u32 r0 c = r1 := ⟨_, rfl⟩
      have hr1g := u32x_range r0 c hrg (by omega)
      rw [hr1] at hr1g hst
      obtain ⟨m1, hm1⟩ : ∃ m, Go.bits .and .u32 r1 15 = m := ⟨_, rfl⟩
      have hm1r : 0 ≤ m1 ∧ m1 < 16 := by rw [← hm1, u32_and15 r1 hr1g.1 hr1g.2]; omega
      have hh1 : halfStep r1 = Go.bits .xor .u32 (r1 / 16) (tabV m1.toNat) := by unfold halfStep; rw [hm1]
      have hh1g := halfStep_range r1 hr1g
      have y1 := (blk_cell HT.out m1.toNat).trans (tabArr_at 16 m1.toNat (by omega))
      rw [if_pos (show m1.toNat < 16 by omega)] at y1
      generalize tabV m1.toNat = v1 at *
      obtain ⟨r2, hr2⟩ : ∃ r2, Go.bits .xor .u32 (r1 / 16) v1 = r2 := ⟨_, rfl⟩
      rw [hr2] at hh1
      rw [hh1] at hst hh1g
      obtain ⟨m2, hm2⟩ : ∃ m, Go.bits .and .u32 r2 15 = m := ⟨_, rfl⟩
      have hm2r : 0 ≤ m2 ∧ m2 < 16 := by rw [← hm2, u32_and15 r2 hh1g.1 hh1g.2]; omega
      have hh2 : halfStep r2 = Go.bits .xor .u32 (r2 / 16) (tabV m2.toNat) := by unfold halfStep; rw [hm2]
      have y2 := (blk_cell HT.out m2.toNat).trans (tabArr_at 16 m2.toNat (by omega))
      rw [if_pos (show m2.toNat < 16 by omega)] at y2
      generalize tabV m2.toNat = v2 at *
      obtain ⟨r3, hr3⟩ : ∃ r3, Go.bits .xor .u32 (r2 / 16) v2 = r3 := ⟨_, rfl⟩
      rw [hr3] at hh2
      rw [hh2] at hst
      have e1 := eq_true hm1r.1; have e2 := eq_true hm1r.2; have e3 := eq_true hm2r.1; have e4 := eq_true hm2r.2
      have HST := Aside0.mk hst; have HJ := Aside0.mk (And.intro hj (And.intro hgg hlt))
      clear hst hj hgg hh1 hh2 hrg hcl hc hcr hr1g hh1g hm1r hm2r hlt
      go_wp2_with fail
      go_roundg (a0.size - (j + 1))
      case measure => have := HJ.out; omega
      case rel => exact ⟨j + 1, HJ.out.2.2, by have := HJ.out; omega, by push_cast; rfl, by rw [HST.out], rfl⟩
    · obtain rfl : j = a0.size := by omega
      have hltz : decide ((a0.size : Int) < (a0.size : Int)) = false := decide_eq_false (by omega)
      have hltn : decide (a0.size < a0.size) = false := decide_eq_false (by omega)
      have htk : a0.data.toList.take a0.size = a0.data.toList := List.take_of_length_le (Nat.le_refl _)
      rw [htk]
      go_wp2_with fail
      go_ret
      exact ⟨by rw [← HRES.out]; rfl, HB.out⟩
end Go.Proofs.YtojcbknclfamhaaGreatDoor.A
namespace Go.Proofs.YtojcbknclfamhaaGreatDoor.A
open Go.RowKit Go.Proofs.YtojcbknclfamhaaGreatDoorW.PrintWords Go.Proofs.YtojcbknclfamhaaGreatDoorW.PrintLast Go.Proofs.YtojcbknclfamhaaGreatDoorW.PrintMore
set_option linter.unusedVariables false
set_option linter.unusedSimpArgs false
def oddC (c : S44) : Bool := decide (c.f0 ≠ 1 ∧ c.f0 ≠ 2)
def idxC (p : S44 → Bool) : List S44 → Int → Int
  | [], _ => -1
  | x :: xs, i => if p x = true then i else idxC p xs (i + 1)
theorem idxC_any (p : S44 → Bool) : ∀ (l : List S44) (i : Int), 0 ≤ i → decide (0 ≤ idxC p l i) = l.any p
  | [], i, h => rfl
  | x :: xs, i, h => by
    unfold idxC
    cases hp : p x with
    | true => simp [hp, h]
    | false => simp only [hp, Bool.false_eq_true, if_false, List.any_cons, Bool.false_or]; exact idxC_any p xs (i + 1) (by omega)
theorem oddC.calls (c : S44) (w : World) : Calls Tryz.prog 35 #[.agg #[.int .i64 c.f0, .bool c.f1]] w fun e w' => e = .returned (.bool (oddC c)) ∧ Below w.heap.size w w' := by
  have hb : oddC c = (!(c.f0 == 1) && !(c.f0 == 2)) := by
    unfold oddC
    by_cases h1 : c.f0 = 1 <;> by_cases h2 : c.f0 = 2 <;> simp [h1, h2]
  rw [hb]
  have hu := Tryz.underlying44
  cases h1 : (c.f0 == 1) with
  | true =>
    have h2 : (c.f0 != 1) = false := by rw [bne, h1]; rfl
    go_enter Tryz.func35, Tryz.ntmps35
    go_wp2
    go_ret
    exact ⟨rfl, below_alloc (Below.refl _ _) _⟩
  | false =>
    have h2 : (c.f0 != 1) = true := by rw [bne, h1]; rfl
    cases h3 : (c.f0 == 2) with
    | true =>
      have h4 : (c.f0 != 2) = false := by rw [bne, h3]; rfl
      go_enter Tryz.func35, Tryz.ntmps35
      go_wp2
      go_ret
      exact ⟨rfl, below_alloc (Below.refl _ _) _⟩
    | false =>
      have h4 : (c.f0 != 2) = true := by rw [bne, h3]; rfl
      go_enter Tryz.func35, Tryz.ntmps35
      go_wp2
      go_ret
      exact ⟨rfl, below_alloc (Below.refl _ _) _⟩
set_option maxHeartbeats 2000000 in
theorem IndexC.calls (g : Nat) (eg : ∀ args w, (callFunc g args).run Tryz.prog w = .ok (.enter g args) w) (hg0 : ∀ (s : S44) W, Calls Tryz.prog g #[.agg #[.int .i64 s.f0, .bool s.f1]] W fun e w' => e = .returned (.bool (oddC s)) ∧ Below W.heap.size W w') (A : Option Addr) (c : Nat) (l : List S44) (w : World) (hr : Kd.C k44 w A l.length l) :
    Calls Tryz.prog 71 #[.slice A l.length c, .func (.func g) #[] #[]] w fun e w' => e = .returned (.int .i64 (idxC oddC l 0)) ∧ Below w.heap.size w w' := by
  have hu := Tryz.underlying22
  have hu2 := Tryz.underlying44
  have hbig := hr.2.1
  have HR := Aside0.mk hr
  clear hr
  go_enter Tryz.func71, Tryz.ntmps71
  go_wp2
  go_loopg [8] l.length (fun gg s8 wr => ∃ kk : Nat, kk ≤ l.length ∧ l.length - kk ≤ gg ∧ s8 = .int .i64 kk ∧ Aside0 (Below w.heap.size w wr) ∧ Aside0 (idxC oddC (l.drop kk) kk = idxC oddC l 0))
  case atStart => exact ⟨0, Nat.zero_le _, by omega, rfl, ⟨Below.refl _ w⟩, ⟨rfl⟩⟩
  case round =>
    obtain ⟨kk, hkk, hg, rfl, BW, I⟩ := hrel
    by_cases hlt : kk < l.length
    · have hltz : decide ((kk : Int) < (l.length : Int)) = true := decide_eq_true (by omega)
      have hltn : decide (kk < l.length) = true := decide_eq_true hlt
      have H1 := I.out
      rw [List.drop_eq_getElem_cons hlt] at H1
      simp only [idxC] at H1
      obtain ⟨ad, e, hx0, hx1⟩ := at_T44 HR.out (kk : Int) (by omega) (by omega)
      cases e
      replace hx0 := (BW.out.cell (World.block_lt_of_cell? w _ hx0)).trans hx0
      replace hx1 := (BW.out.cell (World.block_lt_of_cell? w _ hx1)).trans hx1
      have hxe : rd_T44 l (kk : Int) = l[kk] := by simp [rd_T44, hlt]
      rw [← hxe] at H1
      rw [Int.toNat_natCast] at hx0 hx1
      generalize rd_T44 l (kk : Int) = x at *
      have HH := Aside0.mk H1; have HLT := Aside0.mk (And.intro hkk (And.intro hg hlt))
      have hjT : ((kk : Int) < (l.length : Int)) = True := eq_true (by omega)
      have hj0 : ((0 : Int) ≤ (kk : Int)) = True := eq_true (by omega)
      have hpj : IntKind.i64.wrap ((kk : Int) + 1) = (kk : Int) + 1 := IntWalk.i64_in _ (by omega)
      have hcall := hg0 x wr
      clear H1 hxe I hkk hg hlt
      cases hb : oddC x with
      | true =>
        rw [hb] at hcall HH
        go_wp2_with (go_at_fn g; refine hcall.mono ?_; rintro e w' ⟨rfl, hb'⟩)
        go_ret
        have H3 := HH.out
        simp only [if_true] at H3
        exact ⟨by rw [← H3]; rfl, BW.out.trans (hb'.mono BW.out.size)⟩
      | false =>
        rw [hb] at hcall HH
        go_wp2_with (go_at_fn g; refine hcall.mono ?_; rintro e w' ⟨rfl, hb'⟩; (have BW2 := Aside0.mk (BW.out.trans (hb'.mono BW.out.size))); clear hb')
        go_roundg (l.length - (kk + 1))
        case measure => have := HLT.out; omega
        case rel => exact ⟨kk + 1, HLT.out.2.2, by have := HLT.out; omega, by push_cast; rfl, BW2, ⟨by simpa using HH.out⟩⟩
    · have hltz : decide ((kk : Int) < (l.length : Int)) = false := decide_eq_false (by omega)
      have hltn : decide (kk < l.length) = false := decide_eq_false hlt
      have : kk = l.length := by omega
      subst this
      have H1 := I.out
      rw [List.drop_length] at H1
      have H2 := Aside0.mk H1
      clear H1 I
      go_wp2
      go_ret
      exact ⟨by rw [← H2.out]; rfl, BW.out⟩
set_option maxHeartbeats 2000000 in
theorem ContainsC.calls (A : Option Addr) (c : Nat) (l : List S44) (w : World) (hr : Kd.C k44 w A l.length l) :
    Calls Tryz.prog 36 #[.slice A l.length c, .func (.func 35) #[] #[]] w fun e w' => e = .returned (.bool (l.any oddC)) ∧ Below w.heap.size w w' := by
  have hcall := IndexC.calls 35 (enters_of Tryz.func35 (by kernel_rfl) rfl) oddC.calls A c l w hr
  have HB := Aside0.mk (idxC_any oddC l 0 (Int.le_refl _))
  clear hr
  generalize idxC oddC l 0 = r at *
  go_enter Tryz.func36, Tryz.ntmps36
  go_wp2_with (go_at_call 71; refine hcall.mono ?_; rintro e w' ⟨rfl, hb'⟩)
  go_ret
  exact ⟨by rw [← HB.out]; rfl, hb'⟩
def rightC (l : List S44) : Bool := decide (0 < l.length) && decide (l.length ≤ 6) && !(rd_T44 l 0).f1 && !(l.any oddC)
def kinds_Right.f (l : List S44) : Option Bool := some (rightC l)
set_option maxHeartbeats 4000000 in
set_option maxRecDepth 100000 in
theorem kinds_Right.calls (A : Option Addr) (c : Nat) (l : List S44) (r : Bool) (w : World) (hr : Kd.C k44 w A l.length l) (hc0 : l.length ≤ c) (h : kinds_Right.f l = some r) :
    Calls Tryz.prog 16 #[.slice A l.length c] w fun e w' => e = .returned (.bool r) ∧ Below w.heap.size w w' := by
  have h := Option.some.inj h
  subst h
  have hcall := fun W (hb : Below w.heap.size w W) => ContainsC.calls A c l W (Kd.C_below hr hb)
  have HC := Aside0.mk hcall
  have HR := Aside0.mk hr
  have hbig := hr.2.1
  have hu2 := Tryz.underlying44
  have hu := Tryz.underlying22
  clear hr hcall
  by_cases h0 : 0 < l.length
  rotate_left
  · have hr0 : rightC l = false := by unfold rightC; rw [decide_eq_false h0]; rfl
    have g1 : decide ((0 : Int) < (l.length : Int)) = false := decide_eq_false (by omega)
    have g2 : decide (0 < l.length) = false := decide_eq_false h0
    rw [hr0]
    clear hr0
    go_enter Tryz.func16, Tryz.ntmps16
    go_wp2_with fail
    go_ret
    exact ⟨rfl, Below.refl _ _⟩
  have g1 : decide ((0 : Int) < (l.length : Int)) = true := decide_eq_true (by omega)
  have g2 : decide (0 < l.length) = true := decide_eq_true h0
  by_cases h6 : l.length ≤ 6
  rotate_left
  · have hr0 : rightC l = false := by unfold rightC; rw [decide_eq_false h6]; simp
    have g3 : decide ((l.length : Int) ≤ 6) = false := decide_eq_false (by omega)
    have g4 : decide (l.length ≤ 6) = false := decide_eq_false h6
    have g5 : decide ((6 : Int) < (l.length : Int)) = true := decide_eq_true (by omega)
    have g6 : decide (6 < l.length) = true := decide_eq_true (by omega)
    rw [hr0]
    clear hr0
    go_enter Tryz.func16, Tryz.ntmps16
    go_wp2_with fail
    go_ret
    exact ⟨rfl, Below.refl _ _⟩
  have g3 : decide ((l.length : Int) ≤ 6) = true := decide_eq_true (by omega)
  have g4 : decide (l.length ≤ 6) = true := decide_eq_true h6
  have g5 : decide ((6 : Int) < (l.length : Int)) = false := decide_eq_false (by omega)
  have g6 : decide (6 < l.length) = false := decide_eq_false (by omega)
  obtain ⟨ad, e, hx0, hx1⟩ := at_T44 HR.out 0 (by omega) (by omega)
  cases e
  have hjT : ((0 : Int) < (l.length : Int)) = True := eq_true (by omega)
  have hj : 0 < l.length := h0
  rw [show (0 : Int).toNat = 0 from rfl] at hx0 hx1
  replace hx1 : w.cell? ⟨ad.block, ad.off + 1, none⟩ = some (.bool (rd_T44 l 0).f1) := by simpa [Addr.add] using hx1
  clear hx0
  have hr0 : rightC l = (!(rd_T44 l 0).f1 && !(l.any oddC)) := by unfold rightC; rw [g2, g4]; simp
  rw [hr0]
  generalize rd_T44 l 0 = x at *
  obtain ⟨x0, x1⟩ := x
  simp only at hx1 ⊢
  clear hr0
  cases x1 with
  | true =>
    go_enter Tryz.func16, Tryz.ntmps16
    go_wp2_with fail
    go_ret
    exact ⟨rfl, Below.refl _ _⟩
  | false =>
    go_enter Tryz.func16, Tryz.ntmps16
    go_wp2_with fail
    refine (HC.out _ (Below.refl _ _)).mono ?_
    rintro e w' ⟨rfl, hb'⟩
    go_wp2_with fail
    go_ret
    exact ⟨rfl, hb'⟩
end Go.Proofs.YtojcbknclfamhaaGreatDoor.A
