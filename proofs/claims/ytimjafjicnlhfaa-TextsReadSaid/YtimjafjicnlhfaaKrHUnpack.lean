/- bits.Unpack. -/
import Derived.Test.YtimjafjicnlhfaaKrAx0
import Derived.Test.YtimjafjicnlhfaaKrAx4
import Derived.Test.YtimjafjicnlhfaaKrHUnp
import Derived.Deep.RegionLaw
namespace Go.Proofs.Ytimjafjicnlhfaa.A
open Go.RowKit Go.Proofs.YtimjafjicnlhfaaW.PrintWords Go.Proofs.YtimjafjicnlhfaaW.PrintLast Go.Proofs.YtimjafjicnlhfaaW.PrintMore
set_option linter.unusedVariables false
set_option linter.unusedSimpArgs false
def getAll (s : ByteArray) (w n : Nat) : List Int := (List.range n).map (fun i => getI s (i * w) w)
theorem getAll_length (s : ByteArray) (w n : Nat) : (getAll s w n).length = n := by simp [getAll]
theorem getAll_succ (s : ByteArray) (w n : Nat) : getAll s w (n + 1) = getAll s w n ++ [getI s (n * w) w] := by simp [getAll, List.range_succ]
def bits_Unpack.f (s : ByteArray) (n w : Int) : Option (List Int × Int) :=
  if w < 0 ∨ 64 < w ∨ n < 0 ∨ 65536 < n then some ([], 1) else
    (bits_fits.f s (n * w)).bind fun e => if e = 0 then some (getAll s w.toNat n.toNat, 0) else some ([], e)
theorem fits_size (s : ByteArray) (m : Nat) (hm : m ≤ 4194304) (h : bits_fits.f s m = some 0) : m ≤ 8 * s.size := by
  have h7 : wrap64 ((m : Int) + 7) = (m : Int) + 7 := by unfold wrap64; omega
  have hd : Int.tdiv ((m : Int) + 7) 8 = ((m : Int) + 7) / 8 := Int.tdiv_eq_ediv_of_nonneg (by omega)
  have hw : wrap64 (((m : Int) + 7) / 8) = ((m : Int) + 7) / 8 := by unfold wrap64; omega
  unfold bits_fits.f at h
  rw [h7, hd, hw] at h
  by_cases hc : (s.size : Int) < ((m : Int) + 7) / 8
  · rw [if_pos hc] at h
    cases h
  · omega
set_option maxHeartbeats 4000000 in
set_option maxRecDepth 100000 in
theorem bits_Unpack.calls (a0 : ByteArray) (a1 : Int) (a2 : Int) (r1 : List Int) (r2 : Int) (w : World) (h : bits_Unpack.f a0 a1 a2 = some (r1, r2)) :
    Calls Try.prog 76 #[.string a0, .int .i64 a1, .int .i64 a2] w fun e w' => ∃ v0_ : Value, e = .returned (.tuple #[v0_, .int .i64 r2]) ∧ Kd.R (Kd.int .u64) 38 w' w.heap.size (fun _ => True) v0_ r1 ∧ Below w.heap.size w w' := by
  have hu := Try.underlying116
  unfold bits_Unpack.f at h
  by_cases hok : a2 < 0 ∨ 64 < a2 ∨ a1 < 0 ∨ 65536 < a1
  · rw [if_pos hok] at h
    injection h with h
    injection h with e1 e2
    subst e1; subst e2
    have hfin : ∀ w', Below w.heap.size w w' → ∃ v0_ : Value, Ending.returned (.tuple #[.slice none 0 0, .int .i64 1]) = .returned (.tuple #[v0_, .int .i64 1]) ∧ Kd.R (Kd.int .u64) 38 w' w.heap.size (fun _ => True) v0_ [] ∧ Below w.heap.size w w' := fun w' hb => ⟨_, rfl, Kd.R_nil _ _ _ _ _, hb⟩
    have HF := Aside0.mk hfin
    clear hfin
    by_cases c1 : a2 < 0
    · have g1 : decide (a2 < 0) = true := decide_eq_true c1
      go_enter Try.func76, Try.ntmps76
      go_wp2_with fail
      go_ret2
      exact HF.out _ (Below.refl _ _)
    · have g1 : decide (a2 < 0) = false := decide_eq_false c1
      by_cases c2 : 64 < a2
      · have g2 : decide (64 < a2) = true := decide_eq_true c2
        go_enter Try.func76, Try.ntmps76
        go_wp2_with fail
        go_ret2
        exact HF.out _ (Below.refl _ _)
      · have g2 : decide (64 < a2) = false := decide_eq_false c2
        by_cases c3 : a1 < 0
        · have g3 : decide (a1 < 0) = true := decide_eq_true c3
          go_enter Try.func76, Try.ntmps76
          go_wp2_with fail
          go_ret2
          exact HF.out _ (Below.refl _ _)
        · have g3 : decide (a1 < 0) = false := decide_eq_false c3
          have g4 : decide (65536 < a1) = true := decide_eq_true (by omega)
          go_enter Try.func76, Try.ntmps76
          go_wp2_with fail
          go_ret2
          exact HF.out _ (Below.refl _ _)
  · rw [if_neg hok] at h
    have g1 : decide (a2 < 0) = false := decide_eq_false (by omega)
    have g2 : decide (64 < a2) = false := decide_eq_false (by omega)
    have g3 : decide (a1 < 0) = false := decide_eq_false (by omega)
    have g4 : decide (65536 < a1) = false := decide_eq_false (by omega)
    obtain ⟨n, rfl⟩ : ∃ n : Nat, a1 = (n : Int) := ⟨a1.toNat, by omega⟩
    obtain ⟨wd, rfl⟩ : ∃ wd : Nat, a2 = (wd : Int) := ⟨a2.toNat, by omega⟩
    rw [Int.toNat_natCast, Int.toNat_natCast] at h
    have hn : n ≤ 65536 := by omega
    have hw : wd ≤ 64 := by omega
    obtain ⟨e, he, h⟩ := Option.bind_eq_some_iff.mp h
    have hmul : n * wd ≤ 4194304 := Nat.le_trans (Nat.mul_le_mul hn hw) (by decide)
    have hmz : (n : Int) * (wd : Int) = ((n * wd : Nat) : Int) := by simp
    rw [hmz] at he
    obtain ⟨m, hm⟩ : ∃ m : Nat, m = n * wd := ⟨_, rfl⟩
    rw [← hm] at he hmul hmz
    have hmi : IntKind.i64.wrap ((n : Int) * (wd : Int)) = (m : Int) := by rw [hmz]; exact IntWalk.i64_in _ (by omega)
    have hfc := fun W => bits_fits.calls a0 (m : Int) e W he
    clear hmz
    have HMM := Aside0.mk hm
    clear hm
    have HFC := Aside0.mk hfc; have HE := Aside0.mk he; have HM := Aside0.mk hmul; have HN := Aside0.mk hn; have HW := Aside0.mk hw
    clear hfc he hok hn hw hmul
    by_cases ce : e = 0
    · rw [if_pos ce] at h
      subst ce
      injection h with h
      injection h with e1 e2
      subst e1; subst e2
      have hsz := fits_size a0 m HM.out HE.out
      have HSZ := Aside0.mk hsz
      clear hsz HE
      go_enter Try.func76, Try.ntmps76
      go_wp2_with fail
      refine (HFC.out _).mono ?_
      rintro e w1 ⟨rfl, ⟨q1, rfl⟩⟩
      have HB1 : Aside0 (Below w.heap.size w (w.drewN q1)) := ⟨by apply pw_below_drewN; exact Below.refl _ _⟩
      generalize w.drewN q1 = w1 at *
      clear HFC
      go_wp2_with fail
      have HB2 : Aside0 (Below w.heap.size w (w1.alloc (.cells #[.string a0, .int .i64 0] 116))) := ⟨HB1.out.alloc HB1.out.size _⟩
      have HK2 : Aside0 ((w1.alloc (.cells #[.string a0, .int .i64 0] 116)).heap[w1.heap.size]? = some (.cells #[.string a0, .int .i64 0] 116 (0, 0))) := ⟨by simpa using heap_alloc_new w1 (.cells #[.string a0, .int .i64 0] 116)⟩
      have HG := Aside0.mk HB1.out.size
      generalize w1.heap.size = g at *
      generalize (w1.alloc (.cells #[.string a0, .int .i64 0] 116)) = w2 at *
      clear HB1 w1
      go_loopg [10, 37] n (fun gg s10 s37 wr => ∃ j : Nat, j ≤ n ∧ n - j ≤ gg ∧ s37 = .int .i64 j ∧ Aside0 (Below w.heap.size w wr) ∧
        Aside0 (wr.heap[g]? = some (.cells #[.string a0, .int .i64 (j * wd : Nat)] 116 (0, 0))) ∧ Aside0 (Kd.R (Kd.int .u64) 38 wr w.heap.size (fun _ => True) s10 (getAll a0 wd j)))
      case atStart => exact ⟨0, by omega, by omega, rfl, HB2, ⟨by rw [Nat.zero_mul]; exact HK2.out⟩, ⟨Kd.R_nil _ _ _ _ _⟩⟩
      case round =>
        obtain ⟨j, hj, hgg, rfl, HB3, HK3, HR3⟩ := hrel
        by_cases hlt : j < n
        · have hltn : decide (j < n) = true := decide_eq_true hlt
          have hjm : j * wd + wd ≤ m := by rw [HMM.out, ← Nat.succ_mul]; exact Nat.mul_le_mul_right _ hlt
          have hpj : IntKind.i64.wrap ((j : Int) + 1) = (j : Int) + 1 := IntWalk.i64_in _ (by have := HN.out; omega)
          obtain ⟨P, hP⟩ : ∃ P : Nat, P = j * wd := ⟨_, rfl⟩
          rw [← hP] at HK3 hjm
          have hgc := get.calls w wr g a0 P wd HB3.out HG.out HK3.out HW.out (by have := HSZ.out; omega) (by have := HM.out; omega)
          obtain ⟨A3, c3, hv3⟩ := Kd.R_slice HR3.out
          subst hv3
          have HJ := Aside0.mk (And.intro hj (And.intro hgg (And.intro hlt hP))); have HGC := Aside0.mk hgc
          clear hgc hj hgg hlt hP hjm
          go_wp2_with fail
          refine HGC.out.mono ?_
          rintro e w3 ⟨rfl, hb3, hk3, hbk3⟩
          have hr3 := Kd.R_mono (ok' := fun _ => True) (Kd.R_keep (Kd.R_types HR3.out HK3.out (by decide)) hk3 (fun k hk => hk.2)) (fun _ _ => trivial)
          have HB4 := Aside0.mk hb3; have HK4 := Aside0.mk hbk3; have HR4 := Aside0.mk hr3
          clear hb3 hk3 hbk3 hr3 HB3 HK3 HR3 HGC
          generalize hx : getI a0 P wd = x at *
          have HX := Aside0.mk hx
          clear hx
          go_wp2_with (first | (at_builtin; refine Kd.R_append (Kd.int .u64) (w0 := w) w.heap.size rfl (.tmp 39) (.tmp 43) 45 38 (.int .u64 0) 8 rfl Try.underlying45 info38 rfl (by decide) (by omega) (.slice A3 (getAll a0 wd j).length c3) (getAll a0 wd j) x [.int .u64 x] (fun _ => True) (fun _ => False) rfl rfl rfl (fun _ hk => hk.elim) (fun _ _ => trivial) HR4.out HB4.out HB4.out.size (by rw [getAll_length]; have := HJ.out; have := HN.out; omega) ?_; intro v4 w4 ho hb hgr hat2; (have hbk4 := blk_grown HK4.out hgr (Kd.R_ne HR4.out HK4.out (by decide))); (have HR5 := Aside0.mk ho); (have HB5 := Aside0.mk hb); (have HBK5 := Aside0.mk hbk4); clear hat2 hgr ho hb hbk4))
          go_roundg (n - (j + 1))
          case measure => have := HJ.out; omega
          case rel =>
            obtain ⟨h1, h2, h3, h4⟩ := HJ.out
            refine ⟨j + 1, h3, by omega, by push_cast; rfl, HB5, ⟨?_⟩, ⟨?_⟩⟩
            · rw [Nat.succ_mul, ← h4]; exact HBK5.out
            · rw [getAll_succ, ← h4, HX.out]; exact HR5.out
        · have hje : j = n := by omega
          subst hje
          have hltn : decide (j < j) = false := decide_eq_false (by omega)
          go_wp2_with fail
          go_ret2
          exact ⟨_, rfl, HR3.out, HB3.out⟩
    · rw [if_neg ce] at h
      injection h with h
      injection h with e1 e2
      subst e1; subst e2
      have g5 : (e == 0) = false := beq_eq_false_iff_ne.mpr ce
      have g6 : (e != 0) = true := bne_iff_ne.mpr ce
      clear ce
      go_enter Try.func76, Try.ntmps76
      go_wp2_with fail
      refine (HFC.out _).mono ?_
      rintro e w1 ⟨rfl, ⟨q1, rfl⟩⟩
      go_wp2_with fail
      go_ret2
      exact ⟨_, rfl, Kd.R_nil _ _ _ _ _, by apply pw_below_drewN; exact Below.refl _ _⟩
end Go.Proofs.Ytimjafjicnlhfaa.A
