/- frame.half: the table of half bytes. -/
import Derived.Test.YtojcbknclfamhaaDoorKlAx0
import Derived.Laws.BytesArg
namespace Go.Proofs.YtojcbknclfamhaaDoor.A
open Go.RowKit Go.Proofs.YtojcbknclfamhaaDoorW.PrintWords Go.Proofs.YtojcbknclfamhaaDoorW.PrintLast Go.Proofs.YtojcbknclfamhaaDoorW.PrintMore
set_option linter.unusedVariables false
set_option linter.unusedSimpArgs false
def bitStep (r : Int) : Int := if (Go.bits .and .u32 r 1 == 1) = true then Go.bits .xor .u32 (r / 2) 2197175160 else r / 2
def bitSteps : Nat → Int → Int
  | 0, r => r
  | k + 1, r => bitStep (bitSteps k r)
def tabV (i : Nat) : Int := bitSteps 4 (i : Int)
def tabArr (i : Nat) : Array Value := ((List.range 16).map (fun j => Value.int .u32 (if j < i then tabV j else 0))).toArray
theorem tabArr_set : ∀ (i : Nat), i < 16 → (tabArr i).setIfInBounds i (.int .u32 (tabV i)) = tabArr (i + 1)
  | 0, _ => rfl
  | 1, _ => rfl
  | 2, _ => rfl
  | 3, _ => rfl
  | 4, _ => rfl
  | 5, _ => rfl
  | 6, _ => rfl
  | 7, _ => rfl
  | 8, _ => rfl
  | 9, _ => rfl
  | 10, _ => rfl
  | 11, _ => rfl
  | 12, _ => rfl
  | 13, _ => rfl
  | 14, _ => rfl
  | 15, _ => rfl
  | n + 16, h => absurd h (by omega)
theorem tabArr_at (i j : Nat) (h : j < 16) : (tabArr i)[j]? = some (.int .u32 (if j < i then tabV j else 0)) := by
  simp [tabArr, h]
theorem tabArr_zero : tabArr 0 = #[.int .u32 0, .int .u32 0, .int .u32 0, .int .u32 0, .int .u32 0, .int .u32 0, .int .u32 0, .int .u32 0, .int .u32 0, .int .u32 0, .int .u32 0, .int .u32 0, .int .u32 0, .int .u32 0, .int .u32 0, .int .u32 0] := rfl
theorem tabArr_full : tabArr 16 = #[.int .u32 (tabV 0), .int .u32 (tabV 1), .int .u32 (tabV 2), .int .u32 (tabV 3), .int .u32 (tabV 4), .int .u32 (tabV 5), .int .u32 (tabV 6), .int .u32 (tabV 7), .int .u32 (tabV 8), .int .u32 (tabV 9), .int .u32 (tabV 10), .int .u32 (tabV 11), .int .u32 (tabV 12), .int .u32 (tabV 13), .int .u32 (tabV 14), .int .u32 (tabV 15)] := rfl
set_option maxHeartbeats 8000000 in
set_option maxRecDepth 100000 in
theorem half.calls (w : World) :
    Calls Tryd.prog 65 #[] w fun e w' => e = .returned (.agg (tabArr 16)) ∧ Below w.heap.size w w' := by
  have hu := Tryd.underlying117
  have hu2 := Tryd.underlying79
  go_enter Tryd.func65, Tryd.ntmps65
  go_wp2
  have k0 := blk_new w (.cells (tabArr 0) 117)
  rw [tabArr_zero] at k0
  have k0' := ((below_alloc (Below.refl _ _) (.cells (tabArr 0) 117) : Below (w.alloc (.cells (tabArr 0) 117)).heap.size (w.alloc (.cells (tabArr 0) 117)) _).block w.heap.size (by simp)).trans (blk_new w (.cells (tabArr 0) 117))
  have k1 := blk_new (w.alloc (.cells (tabArr 0) 117)) (.cells (tabArr 0) 117)
  have hbel : Below w.heap.size w ((w.alloc (.cells (tabArr 0) 117)).alloc (.cells (tabArr 0) 117)) := ((Below.refl _ _).alloc (Nat.le_refl _) _).alloc (by simp) _
  have hsz : (w.alloc (.cells (tabArr 0) 117)).heap.size = w.heap.size + 1 := by simp
  rw [hsz] at k1
  clear k0 hsz
  rw [show (#[.int .u32 0, .int .u32 0, .int .u32 0, .int .u32 0, .int .u32 0, .int .u32 0, .int .u32 0, .int .u32 0, .int .u32 0, .int .u32 0, .int .u32 0, .int .u32 0, .int .u32 0, .int .u32 0, .int .u32 0, .int .u32 0] : Array Value) = tabArr 0 from rfl]
  have K0 := Aside0.mk k0'; have K1 := Aside0.mk k1; have HB := Aside0.mk hbel
  clear k0' k1 hbel
  generalize (w.alloc (.cells (tabArr 0) 117)).alloc (.cells (tabArr 0) 117) = w1 at *
  go_loopg [4] 16 (fun gg s4 wr => ∃ i : Nat, i ≤ 16 ∧ 16 - i ≤ gg ∧ s4 = .int .i64 i ∧ Aside0 (wr.heap[w.heap.size]? = some (.cells (tabArr 0) 117 (0, 0))) ∧ Aside0 (wr.heap[w.heap.size + 1]? = some (.cells (tabArr i) 117 (0, 0))) ∧ Aside0 (Below w.heap.size w wr))
  case atStart => exact ⟨0, by omega, by omega, rfl, K0, K1, HB⟩
  case round =>
    clear K0 K1 HB
    obtain ⟨i, hi, hg, rfl, K0, K1, HB⟩ := hrel
    rename World => w2
    by_cases hlt : i < 16
    · have g1 : decide ((i : Int) < 16) = true := decide_eq_true (by omega)
      have g2 : decide (i < 16) = true := decide_eq_true (by omega)
      have HI := Aside0.mk (And.intro hi (And.intro hg hlt))
      have hcv : IntKind.u32.wrap (i : Int) = (i : Int) := by rw [IntKind.wrap_u32]; omega
      have hpi : IntKind.i64.wrap ((i : Int) + 1) = (i : Int) + 1 := IntWalk.i64_in _ (by omega)
      clear hi hg hlt
      go_wp2
      go_loopg [3, 9] 4 (fun gg s3 s9 wr2 => ∃ k : Nat, k ≤ 4 ∧ 4 - k ≤ gg ∧ s9 = .int .i64 k ∧ s3 = .int .u32 (bitSteps k (i : Int)) ∧ wr2 = w2)
      case atStart => exact ⟨0, by omega, by omega, rfl, rfl, rfl⟩
      case round =>
        obtain ⟨k, hk, hgk, rfl, rfl, rfl⟩ := hrel
        by_cases hk4 : k < 4
        · have g3 : decide ((k : Int) < 4) = true := decide_eq_true (by omega)
          have g4 : decide (k < 4) = true := decide_eq_true (by omega)
          have hpk : IntKind.i64.wrap ((k : Int) + 1) = (k : Int) + 1 := IntWalk.i64_in _ (by omega)
          have hs : bitSteps (k + 1) (i : Int) = bitStep (bitSteps k (i : Int)) := rfl
          have HS := Aside0.mk hs; have HK := Aside0.mk (And.intro hk (And.intro hgk hk4))
          clear hs hk hgk hk4
          generalize bitSteps k (i : Int) = r at *
          cases hb : (Go.bits .and .u32 r 1 == 1) with
          | true =>
            have hr : bitStep r = Go.bits .xor .u32 (r / 2) 2197175160 := if_pos hb
            have HR := Aside0.mk hr
            clear hr
            go_wp2
            go_roundg (4 - (k + 1))
            case measure => have := HK.out; omega
            case rel => exact ⟨k + 1, by have := HK.out; omega, by have := HK.out; omega, by push_cast; rfl, by rw [HS.out, HR.out], rfl⟩
          | false =>
            have hr : bitStep r = r / 2 := if_neg (by rw [hb]; decide)
            have HR := Aside0.mk hr
            clear hr
            go_wp2
            go_roundg (4 - (k + 1))
            case measure => have := HK.out; omega
            case rel => exact ⟨k + 1, by have := HK.out; omega, by have := HK.out; omega, by push_cast; rfl, by rw [HS.out, HR.out], rfl⟩
        · obtain rfl : k = 4 := by omega
          have g3 : decide (((4 : Nat) : Int) < 4) = false := by decide
          have y0 := (blk_cell K1.out i).trans (tabArr_at i i HI.out.2.2)
          have u0 := blk_frozen K1.out i
          have j0 : (0 : Int) ≤ (i : Int) := by omega
          have j1 : (i : Int) < 16 := by have := HI.out; omega
          have j0' := eq_true j0; have j1' := eq_true j1
          have htv : bitSteps 4 (i : Int) = tabV i := rfl
          rw [htv]
          clear htv
          generalize hv : tabV i = v at *
          have HV := Aside0.mk hv
          clear hv
          go_wp2
          go_roundg (16 - (i + 1))
          case measure => have := HI.out; omega
          case rel =>
            refine ⟨i + 1, by have := HI.out; omega, by have := HI.out; omega, by push_cast; rfl, ⟨blk_far (p := ⟨w.heap.size + 1, i, none⟩) K0.out (by simp) _⟩, ⟨?_⟩, ⟨HB.out.setCell (by simp) _⟩⟩
            have := blk_set K1.out i (.int .u32 v)
            rw [← HV.out, tabArr_set i HI.out.2.2] at this
            rw [← HV.out]
            exact this
    · obtain rfl : i = 16 := by omega
      have g1 : decide (((16 : Nat) : Int) < 16) = false := by decide
      have hh := K1.out
      rw [tabArr_full] at hh
      have hb0 := K0.out
      rw [tabArr_zero] at hb0
      have q0 := (blk_cell hh 0).trans rfl
      have q1 := (blk_cell hh 1).trans rfl
      have q2 := (blk_cell hh 2).trans rfl
      have q3 := (blk_cell hh 3).trans rfl
      have q4 := (blk_cell hh 4).trans rfl
      have q5 := (blk_cell hh 5).trans rfl
      have q6 := (blk_cell hh 6).trans rfl
      have q7 := (blk_cell hh 7).trans rfl
      have q8 := (blk_cell hh 8).trans rfl
      have q9 := (blk_cell hh 9).trans rfl
      have q10 := (blk_cell hh 10).trans rfl
      have q11 := (blk_cell hh 11).trans rfl
      have q12 := (blk_cell hh 12).trans rfl
      have q13 := (blk_cell hh 13).trans rfl
      have q14 := (blk_cell hh 14).trans rfl
      have q15 := (blk_cell hh 15).trans rfl
      have p0 := (blk_cell hb0 0).trans rfl
      have f0 := blk_frozen hb0 0
      have p1 := (blk_cell hb0 1).trans rfl
      have f1 := blk_frozen hb0 1
      have p2 := (blk_cell hb0 2).trans rfl
      have f2 := blk_frozen hb0 2
      have p3 := (blk_cell hb0 3).trans rfl
      have f3 := blk_frozen hb0 3
      have p4 := (blk_cell hb0 4).trans rfl
      have f4 := blk_frozen hb0 4
      have p5 := (blk_cell hb0 5).trans rfl
      have f5 := blk_frozen hb0 5
      have p6 := (blk_cell hb0 6).trans rfl
      have f6 := blk_frozen hb0 6
      have p7 := (blk_cell hb0 7).trans rfl
      have f7 := blk_frozen hb0 7
      have p8 := (blk_cell hb0 8).trans rfl
      have f8 := blk_frozen hb0 8
      have p9 := (blk_cell hb0 9).trans rfl
      have f9 := blk_frozen hb0 9
      have p10 := (blk_cell hb0 10).trans rfl
      have f10 := blk_frozen hb0 10
      have p11 := (blk_cell hb0 11).trans rfl
      have f11 := blk_frozen hb0 11
      have p12 := (blk_cell hb0 12).trans rfl
      have f12 := blk_frozen hb0 12
      have p13 := (blk_cell hb0 13).trans rfl
      have f13 := blk_frozen hb0 13
      have p14 := (blk_cell hb0 14).trans rfl
      have f14 := blk_frozen hb0 14
      have p15 := (blk_cell hb0 15).trans rfl
      have f15 := blk_frozen hb0 15
      clear hh hb0
      go_wp2
      refine bodyPost_ret (v := .agg (tabArr 16)) (by rw [tabArr_full]; simp [results, Tryd.results65, go_sem, p0, p1, p2, p3, p4, p5, p6, p7, p8, p9, p10, p11, p12, p13, p14, p15]) rfl ⟨rfl, ?_⟩
      iterate 16 refine Below.setCell ?_ (show w.heap.size ≤ w.heap.size from Nat.le_refl _) _
      exact HB.out
end Go.Proofs.YtojcbknclfamhaaDoor.A
