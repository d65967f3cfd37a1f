/- The reference's bytes of a number. · The reference's bytes of a text. -/
import Derived.Test.YtojcbknclfamhaaGreatDoorKpAx0
import Derived.Test.YtojcbknclfamhaaGreatDoorKpHPlA
namespace Go.Proofs.YtojcbknclfamhaaGreatDoor.A
open Go.RowKit Go.Proofs.YtojcbknclfamhaaGreatDoorW.PrintWords Go.Proofs.YtojcbknclfamhaaGreatDoorW.PrintLast Go.Proofs.YtojcbknclfamhaaGreatDoorW.PrintMore
set_option linter.unusedVariables false
set_option linter.unusedSimpArgs false
def tithebarnref01_Uint.f (a0 : Int) : Option ByteArray := if 0 ≤ a0 ∧ a0 < 18446744073709551616 then some (strOfNums (uintB a0)) else none
def topB (n : Int) (sz : Nat) (mark : Int) : Int := ((if sz ≤ 8 then n / 2 ^ (8 * (sz - 1)) % 256 else 0) + mark) % 256
def restU (n : Int) (sz : Nat) (mark : Int) (m : Nat) : List Int := if m = sz then topB n sz mark :: bigB n (sz - 1) else bigB n m
theorem restU_one (n : Int) (h0 : 0 ≤ n) (h : n < 64) : restU n 1 0 1 = uintB n := by
  unfold restU uintB topB
  rw [if_pos rfl, if_pos h]
  simp [bigB]
  omega
theorem restU_two (n : Int) (h0 : 0 ≤ n) (h : ¬ n < 64) (h2 : n < 16384) : restU n 2 64 2 = uintB n := by
  unfold restU uintB topB
  rw [if_pos rfl, if_neg h, if_pos h2]
  simp [bigB]
  omega
theorem restU_four (n : Int) (h0 : 0 ≤ n) (h : ¬ n < 64) (h2 : ¬ n < 16384) (h3 : n < 1073741824) : restU n 4 128 4 = uintB n := by
  unfold restU uintB topB
  rw [if_pos rfl, if_neg h, if_neg h2, if_pos h3]
  simp [bigB]
  omega
theorem restU_nine (n : Int) (h0 : 0 ≤ n) (h : ¬ n < 64) (h2 : ¬ n < 16384) (h3 : ¬ n < 1073741824) : restU n 9 192 9 = uintB n := by
  unfold restU uintB topB
  rw [if_pos rfl, if_neg h, if_neg h2, if_neg h3]
  simp
theorem shr_at (n : Int) (m : Nat) (hm : m ≤ 7) : IntKind.u64.wrap (IntKind.i64.wrap (8 * (m : Int))) = ((8 * m : Nat) : Int) := by
  rw [IntWalk.i64_in _ (by omega), IntWalk.u64_in _ (by omega)]
  omega
set_option maxHeartbeats 8000000 in
set_option maxRecDepth 100000 in
theorem tithebarnref01_Uint.calls (a0 : Int) (r : ByteArray) (w : World) (h : tithebarnref01_Uint.f a0 = some r) :
    Calls Tryz.prog 89 #[.int .u64 a0] w fun e w' => e = .returned (.string r) ∧ Below w.heap.size w w' := by
  unfold tithebarnref01_Uint.f at h
  by_cases hr : 0 ≤ a0 ∧ a0 < 18446744073709551616
  · rw [if_pos hr] at h
    have h := Option.some.inj h
    subst h
    by_cases h1 : a0 < 64
    · have g1 : decide (a0 < 64) = true := decide_eq_true h1
      have HT := Aside0.mk (restU_one a0 hr.1 h1)
      have HR := Aside0.mk hr
      clear hr
      go_enter Tryz.func89, Tryz.ntmps89
      go_wp2_with fail
      go_loopg [5, 6] 1 (fun gg s5 s6 wr => ∃ (m : Nat) (acc : List Int), m ≤ 1 ∧ m ≤ gg ∧ s6 = .int .i64 ((m : Int) - 1) ∧ Aside0 (Below w.heap.size w wr) ∧ Aside0 (Kd.R (Kd.int .u8) 5 wr w.heap.size (fun _ => True) s5 acc) ∧ Aside0 (acc ++ restU a0 1 0 m = uintB a0) ∧ Aside0 (acc.length ≤ 9 - m))
      case atStart => exact ⟨1, [], by omega, by omega, rfl, ⟨Below.refl _ _⟩, ⟨Kd.R_nil _ _ _ _ _⟩, ⟨by rw [List.nil_append]; exact HT.out⟩, ⟨by simp⟩⟩
      case round =>
        obtain ⟨m, acc, hm, hgg, rfl, HB1, HR1, HA1, HL1⟩ := hrel
        obtain ⟨A1, c1, hv1⟩ := Kd.R_slice HR1.out
        subst hv1
        by_cases hz : m = 0
        · subst hz
          have hfin : acc = uintB a0 := by have := HA1.out; rw [show restU a0 1 0 0 = [] from rfl, List.append_nil] at this; exact this
          subst hfin
          have e0 : ((0 : Nat) : Int) - 1 = -1 := by omega
          rw [e0]
          go_wp2_with fail
          rw [own_string Tryz.underlying94 Tryz.underlying5 Tryz.underlying9 (Kd.own_of_R HR1.out)]
          go_wp2_with fail
          go_ret
          exact ⟨rfl, HB1.out⟩
        · obtain ⟨q, rfl⟩ : ∃ q, m = q + 1 := ⟨m - 1, by omega⟩
          have eq1 : (((q + 1 : Nat) : Int)) - 1 = (q : Int) := by omega
          rw [eq1]
          have ge0 : decide ((0 : Int) ≤ (q : Int)) = true := decide_eq_true (by omega)
          have hdec : IntKind.i64.wrap ((q : Int) - 1) = (q : Int) - 1 := IntWalk.i64_in _ (by omega)
          have HG := Aside0.mk hgg; have HM := Aside0.mk hm
          by_cases ht : q + 1 = 1
          · have hq : q = 0 := by omega
            subst hq
            have hacc : acc ++ [topB a0 1 0] ++ bigB a0 0 = uintB a0 := by have := HA1.out; unfold restU at this; rw [if_pos (by omega)] at this; rw [List.append_assoc]; exact this
            have HAC := Aside0.mk hacc
            clear hacc hgg hm hz ht eq1
            have hsh : topB a0 1 0 = (a0 / 2 ^ (8 * 0) % 256 + 0) % 256 := by unfold topB; rw [if_pos (by omega)]
            have HSH := Aside0.mk hsh
            clear hsh
            have hrest : restU a0 1 0 0 = bigB a0 0 := by unfold restU; rw [if_neg (by decide)]
            have HRE := Aside0.mk hrest
            clear hrest
            go_wp2_with (first | (at_builtin; refine Kd.R_append (Kd.int .u8) (w0 := w) w.heap.size rfl _ _ 94 5 (.int .u8 0) 1 rfl Tryz.underlying94 info5 rfl (by decide) (by omega) (.slice A1 acc.length c1) acc _ [.int .u8 _] (fun _ => True) (fun _ => False) rfl rfl rfl (fun _ hk => hk.elim) (fun _ _ => trivial) HR1.out HB1.out HB1.out.size (by have := HL1.out; omega) ?_; intro v2 w2 ho hb hgr hat2; (have HR2 := Aside0.mk ho); (have HB2 := Aside0.mk hb); clear hat2 hgr ho hb))
            go_roundg 0
            case measure => have := HG.out; omega
            case rel =>
              refine ⟨0, _, by omega, by omega, by first | rfl | (congr 1), HB2, HR2, ⟨?_⟩, ⟨by rw [List.length_append, List.length_singleton]; have := HL1.out; omega⟩⟩
              rw [← HAC.out, HRE.out, HSH.out]
              congr 3; first | (simp; done) | (simp; omega)
          · have hqs : q + 1 < 1 := by omega
            have hacc : acc ++ [a0 / 2 ^ (8 * q) % 256] ++ restU a0 1 0 q = uintB a0 := by
              have h0 := HA1.out
              unfold restU at h0 ⊢
              rw [if_neg ht] at h0
              rw [if_neg (by omega), List.append_assoc]
              exact h0
            have hcount := shr_at a0 q (by omega)
            have h8 : decide ((q : Int) < 8) = true := decide_eq_true (by omega)
            have hne : ((q : Int) == 0) = false := beq_eq_false_iff_ne.mpr (by omega)
            have hmul8 : IntKind.i64.wrap (8 * (q : Int)) = ((8 * q : Nat) : Int) := by rw [IntWalk.i64_in _ (by omega)]; omega
            have hu8 : IntKind.u64.wrap ((8 * q : Nat) : Int) = ((8 * q : Nat) : Int) := IntWalk.u64_in _ (by omega)
            obtain ⟨e8, he8⟩ : ∃ e8 : Nat, e8 = 8 * q := ⟨_, rfl⟩
            rw [← he8] at hmul8 hu8 hacc
            have h64 : (e8 : Int) ≤ 64 := by omega
            have HAC := Aside0.mk hacc; have HQ := Aside0.mk (And.intro hqs he8)
            clear hacc hgg hm hz ht eq1 hcount hqs he8
            go_wp2_with (first | (at_builtin; refine Kd.R_append (Kd.int .u8) (w0 := w) w.heap.size rfl _ _ 94 5 (.int .u8 0) 1 rfl Tryz.underlying94 info5 rfl (by decide) (by omega) (.slice A1 acc.length c1) acc _ [.int .u8 _] (fun _ => True) (fun _ => False) rfl rfl rfl (fun _ hk => hk.elim) (fun _ _ => trivial) HR1.out HB1.out HB1.out.size (by have := HL1.out; omega) ?_; intro v2 w2 ho hb hgr hat2; (have HR2 := Aside0.mk ho); (have HB2 := Aside0.mk hb); clear hat2 hgr ho hb))
            go_roundg q
            case measure => have := HG.out; omega
            case rel =>
              refine ⟨q, _, by have := HQ.out; omega, by omega, by first | rfl | (congr 1), HB2, HR2, ⟨?_⟩, ⟨by rw [List.length_append, List.length_singleton]; have := HL1.out; have := HQ.out; omega⟩⟩
              exact HAC.out
    · have g1 : decide (a0 < 64) = false := decide_eq_false h1
      by_cases h2 : a0 < 16384
      · have g2 : decide (a0 < 16384) = true := decide_eq_true h2
        have HT := Aside0.mk (restU_two a0 hr.1 h1 h2)
        have HR := Aside0.mk hr
        clear hr
        go_enter Tryz.func89, Tryz.ntmps89
        go_wp2_with fail
        go_loopg [5, 6] 2 (fun gg s5 s6 wr => ∃ (m : Nat) (acc : List Int), m ≤ 2 ∧ m ≤ gg ∧ s6 = .int .i64 ((m : Int) - 1) ∧ Aside0 (Below w.heap.size w wr) ∧ Aside0 (Kd.R (Kd.int .u8) 5 wr w.heap.size (fun _ => True) s5 acc) ∧ Aside0 (acc ++ restU a0 2 64 m = uintB a0) ∧ Aside0 (acc.length ≤ 9 - m))
        case atStart => exact ⟨2, [], by omega, by omega, rfl, ⟨Below.refl _ _⟩, ⟨Kd.R_nil _ _ _ _ _⟩, ⟨by rw [List.nil_append]; exact HT.out⟩, ⟨by simp⟩⟩
        case round =>
          obtain ⟨m, acc, hm, hgg, rfl, HB1, HR1, HA1, HL1⟩ := hrel
          obtain ⟨A1, c1, hv1⟩ := Kd.R_slice HR1.out
          subst hv1
          by_cases hz : m = 0
          · subst hz
            have hfin : acc = uintB a0 := by have := HA1.out; rw [show restU a0 2 64 0 = [] from rfl, List.append_nil] at this; exact this
            subst hfin
            have e0 : ((0 : Nat) : Int) - 1 = -1 := by omega
            rw [e0]
            go_wp2_with fail
            rw [own_string Tryz.underlying94 Tryz.underlying5 Tryz.underlying9 (Kd.own_of_R HR1.out)]
            go_wp2_with fail
            go_ret
            exact ⟨rfl, HB1.out⟩
          · obtain ⟨q, rfl⟩ : ∃ q, m = q + 1 := ⟨m - 1, by omega⟩
            have eq1 : (((q + 1 : Nat) : Int)) - 1 = (q : Int) := by omega
            rw [eq1]
            have ge0 : decide ((0 : Int) ≤ (q : Int)) = true := decide_eq_true (by omega)
            have hdec : IntKind.i64.wrap ((q : Int) - 1) = (q : Int) - 1 := IntWalk.i64_in _ (by omega)
            have HG := Aside0.mk hgg; have HM := Aside0.mk hm
            by_cases ht : q + 1 = 2
            · have hq : q = 1 := by omega
              subst hq
              have hacc : acc ++ [topB a0 2 64] ++ bigB a0 1 = uintB a0 := by have := HA1.out; unfold restU at this; rw [if_pos (by omega)] at this; rw [List.append_assoc]; exact this
              have HAC := Aside0.mk hacc
              clear hacc hgg hm hz ht eq1
              have hsh : topB a0 2 64 = (a0 / 2 ^ (8 * 1) % 256 + 64) % 256 := by unfold topB; rw [if_pos (by omega)]
              have HSH := Aside0.mk hsh
              clear hsh
              have hrest : restU a0 2 64 1 = bigB a0 1 := by unfold restU; rw [if_neg (by decide)]
              have HRE := Aside0.mk hrest
              clear hrest
              go_wp2_with (first | (at_builtin; refine Kd.R_append (Kd.int .u8) (w0 := w) w.heap.size rfl _ _ 94 5 (.int .u8 0) 1 rfl Tryz.underlying94 info5 rfl (by decide) (by omega) (.slice A1 acc.length c1) acc _ [.int .u8 _] (fun _ => True) (fun _ => False) rfl rfl rfl (fun _ hk => hk.elim) (fun _ _ => trivial) HR1.out HB1.out HB1.out.size (by have := HL1.out; omega) ?_; intro v2 w2 ho hb hgr hat2; (have HR2 := Aside0.mk ho); (have HB2 := Aside0.mk hb); clear hat2 hgr ho hb))
              go_roundg 1
              case measure => have := HG.out; omega
              case rel =>
                refine ⟨1, _, by omega, by omega, by first | rfl | (congr 1), HB2, HR2, ⟨?_⟩, ⟨by rw [List.length_append, List.length_singleton]; have := HL1.out; omega⟩⟩
                rw [← HAC.out, HRE.out, HSH.out]
                congr 3; first | (simp; done) | (simp; omega)
            · have hqs : q + 1 < 2 := by omega
              have hacc : acc ++ [a0 / 2 ^ (8 * q) % 256] ++ restU a0 2 64 q = uintB a0 := by
                have h0 := HA1.out
                unfold restU at h0 ⊢
                rw [if_neg ht] at h0
                rw [if_neg (by omega), List.append_assoc]
                exact h0
              have hcount := shr_at a0 q (by omega)
              have h8 : decide ((q : Int) < 8) = true := decide_eq_true (by omega)
              have hne : ((q : Int) == 1) = false := beq_eq_false_iff_ne.mpr (by omega)
              have hmul8 : IntKind.i64.wrap (8 * (q : Int)) = ((8 * q : Nat) : Int) := by rw [IntWalk.i64_in _ (by omega)]; omega
              have hu8 : IntKind.u64.wrap ((8 * q : Nat) : Int) = ((8 * q : Nat) : Int) := IntWalk.u64_in _ (by omega)
              obtain ⟨e8, he8⟩ : ∃ e8 : Nat, e8 = 8 * q := ⟨_, rfl⟩
              rw [← he8] at hmul8 hu8 hacc
              have h64 : (e8 : Int) ≤ 64 := by omega
              have HAC := Aside0.mk hacc; have HQ := Aside0.mk (And.intro hqs he8)
              clear hacc hgg hm hz ht eq1 hcount hqs he8
              go_wp2_with (first | (at_builtin; refine Kd.R_append (Kd.int .u8) (w0 := w) w.heap.size rfl _ _ 94 5 (.int .u8 0) 1 rfl Tryz.underlying94 info5 rfl (by decide) (by omega) (.slice A1 acc.length c1) acc _ [.int .u8 _] (fun _ => True) (fun _ => False) rfl rfl rfl (fun _ hk => hk.elim) (fun _ _ => trivial) HR1.out HB1.out HB1.out.size (by have := HL1.out; omega) ?_; intro v2 w2 ho hb hgr hat2; (have HR2 := Aside0.mk ho); (have HB2 := Aside0.mk hb); clear hat2 hgr ho hb))
              go_roundg q
              case measure => have := HG.out; omega
              case rel =>
                refine ⟨q, _, by have := HQ.out; omega, by omega, by first | rfl | (congr 1), HB2, HR2, ⟨?_⟩, ⟨by rw [List.length_append, List.length_singleton]; have := HL1.out; have := HQ.out; omega⟩⟩
                exact HAC.out
      · have g2 : decide (a0 < 16384) = false := decide_eq_false h2
        by_cases h3 : a0 < 1073741824
        · have g3 : decide (a0 < 1073741824) = true := decide_eq_true h3
          have HT := Aside0.mk (restU_four a0 hr.1 h1 h2 h3)
          have HR := Aside0.mk hr
          clear hr
          go_enter Tryz.func89, Tryz.ntmps89
          go_wp2_with fail
          go_loopg [5, 6] 4 (fun gg s5 s6 wr => ∃ (m : Nat) (acc : List Int), m ≤ 4 ∧ m ≤ gg ∧ s6 = .int .i64 ((m : Int) - 1) ∧ Aside0 (Below w.heap.size w wr) ∧ Aside0 (Kd.R (Kd.int .u8) 5 wr w.heap.size (fun _ => True) s5 acc) ∧ Aside0 (acc ++ restU a0 4 128 m = uintB a0) ∧ Aside0 (acc.length ≤ 9 - m))
          case atStart => exact ⟨4, [], by omega, by omega, rfl, ⟨Below.refl _ _⟩, ⟨Kd.R_nil _ _ _ _ _⟩, ⟨by rw [List.nil_append]; exact HT.out⟩, ⟨by simp⟩⟩
          case round =>
            obtain ⟨m, acc, hm, hgg, rfl, HB1, HR1, HA1, HL1⟩ := hrel
            obtain ⟨A1, c1, hv1⟩ := Kd.R_slice HR1.out
            subst hv1
            by_cases hz : m = 0
            · subst hz
              have hfin : acc = uintB a0 := by have := HA1.out; rw [show restU a0 4 128 0 = [] from rfl, List.append_nil] at this; exact this
              subst hfin
              have e0 : ((0 : Nat) : Int) - 1 = -1 := by omega
              rw [e0]
              go_wp2_with fail
              rw [own_string Tryz.underlying94 Tryz.underlying5 Tryz.underlying9 (Kd.own_of_R HR1.out)]
              go_wp2_with fail
              go_ret
              exact ⟨rfl, HB1.out⟩
            · obtain ⟨q, rfl⟩ : ∃ q, m = q + 1 := ⟨m - 1, by omega⟩
              have eq1 : (((q + 1 : Nat) : Int)) - 1 = (q : Int) := by omega
              rw [eq1]
              have ge0 : decide ((0 : Int) ≤ (q : Int)) = true := decide_eq_true (by omega)
              have hdec : IntKind.i64.wrap ((q : Int) - 1) = (q : Int) - 1 := IntWalk.i64_in _ (by omega)
              have HG := Aside0.mk hgg; have HM := Aside0.mk hm
              by_cases ht : q + 1 = 4
              · have hq : q = 3 := by omega
                subst hq
                have hacc : acc ++ [topB a0 4 128] ++ bigB a0 3 = uintB a0 := by have := HA1.out; unfold restU at this; rw [if_pos (by omega)] at this; rw [List.append_assoc]; exact this
                have HAC := Aside0.mk hacc
                clear hacc hgg hm hz ht eq1
                have hsh : topB a0 4 128 = (a0 / 2 ^ (8 * 3) % 256 + 128) % 256 := by unfold topB; rw [if_pos (by omega)]
                have HSH := Aside0.mk hsh
                clear hsh
                have hrest : restU a0 4 128 3 = bigB a0 3 := by unfold restU; rw [if_neg (by decide)]
                have HRE := Aside0.mk hrest
                clear hrest
                go_wp2_with (first | (at_builtin; refine Kd.R_append (Kd.int .u8) (w0 := w) w.heap.size rfl _ _ 94 5 (.int .u8 0) 1 rfl Tryz.underlying94 info5 rfl (by decide) (by omega) (.slice A1 acc.length c1) acc _ [.int .u8 _] (fun _ => True) (fun _ => False) rfl rfl rfl (fun _ hk => hk.elim) (fun _ _ => trivial) HR1.out HB1.out HB1.out.size (by have := HL1.out; omega) ?_; intro v2 w2 ho hb hgr hat2; (have HR2 := Aside0.mk ho); (have HB2 := Aside0.mk hb); clear hat2 hgr ho hb))
                go_roundg 3
                case measure => have := HG.out; omega
                case rel =>
                  refine ⟨3, _, by omega, by omega, by first | rfl | (congr 1), HB2, HR2, ⟨?_⟩, ⟨by rw [List.length_append, List.length_singleton]; have := HL1.out; omega⟩⟩
                  rw [← HAC.out, HRE.out, HSH.out]
                  congr 3; first | (simp; done) | (simp; omega)
              · have hqs : q + 1 < 4 := by omega
                have hacc : acc ++ [a0 / 2 ^ (8 * q) % 256] ++ restU a0 4 128 q = uintB a0 := by
                  have h0 := HA1.out
                  unfold restU at h0 ⊢
                  rw [if_neg ht] at h0
                  rw [if_neg (by omega), List.append_assoc]
                  exact h0
                have hcount := shr_at a0 q (by omega)
                have h8 : decide ((q : Int) < 8) = true := decide_eq_true (by omega)
                have hne : ((q : Int) == 3) = false := beq_eq_false_iff_ne.mpr (by omega)
                have hmul8 : IntKind.i64.wrap (8 * (q : Int)) = ((8 * q : Nat) : Int) := by rw [IntWalk.i64_in _ (by omega)]; omega
                have hu8 : IntKind.u64.wrap ((8 * q : Nat) : Int) = ((8 * q : Nat) : Int) := IntWalk.u64_in _ (by omega)
                obtain ⟨e8, he8⟩ : ∃ e8 : Nat, e8 = 8 * q := ⟨_, rfl⟩
                rw [← he8] at hmul8 hu8 hacc
                have h64 : (e8 : Int) ≤ 64 := by omega
                have HAC := Aside0.mk hacc; have HQ := Aside0.mk (And.intro hqs he8)
                clear hacc hgg hm hz ht eq1 hcount hqs he8
                go_wp2_with (first | (at_builtin; refine Kd.R_append (Kd.int .u8) (w0 := w) w.heap.size rfl _ _ 94 5 (.int .u8 0) 1 rfl Tryz.underlying94 info5 rfl (by decide) (by omega) (.slice A1 acc.length c1) acc _ [.int .u8 _] (fun _ => True) (fun _ => False) rfl rfl rfl (fun _ hk => hk.elim) (fun _ _ => trivial) HR1.out HB1.out HB1.out.size (by have := HL1.out; omega) ?_; intro v2 w2 ho hb hgr hat2; (have HR2 := Aside0.mk ho); (have HB2 := Aside0.mk hb); clear hat2 hgr ho hb))
                go_roundg q
                case measure => have := HG.out; omega
                case rel =>
                  refine ⟨q, _, by have := HQ.out; omega, by omega, by first | rfl | (congr 1), HB2, HR2, ⟨?_⟩, ⟨by rw [List.length_append, List.length_singleton]; have := HL1.out; have := HQ.out; omega⟩⟩
                  exact HAC.out
        · have g3 : decide (a0 < 1073741824) = false := decide_eq_false h3
          have HT := Aside0.mk (restU_nine a0 hr.1 h1 h2 h3)
          have HR := Aside0.mk hr
          clear hr
          go_enter Tryz.func89, Tryz.ntmps89
          go_wp2_with fail
          go_loopg [5, 6] 9 (fun gg s5 s6 wr => ∃ (m : Nat) (acc : List Int), m ≤ 9 ∧ m ≤ gg ∧ s6 = .int .i64 ((m : Int) - 1) ∧ Aside0 (Below w.heap.size w wr) ∧ Aside0 (Kd.R (Kd.int .u8) 5 wr w.heap.size (fun _ => True) s5 acc) ∧ Aside0 (acc ++ restU a0 9 192 m = uintB a0) ∧ Aside0 (acc.length ≤ 9 - m))
          case atStart => exact ⟨9, [], by omega, by omega, rfl, ⟨Below.refl _ _⟩, ⟨Kd.R_nil _ _ _ _ _⟩, ⟨by rw [List.nil_append]; exact HT.out⟩, ⟨by simp⟩⟩
          case round =>
            obtain ⟨m, acc, hm, hgg, rfl, HB1, HR1, HA1, HL1⟩ := hrel
            obtain ⟨A1, c1, hv1⟩ := Kd.R_slice HR1.out
            subst hv1
            by_cases hz : m = 0
            · subst hz
              have hfin : acc = uintB a0 := by have := HA1.out; rw [show restU a0 9 192 0 = [] from rfl, List.append_nil] at this; exact this
              subst hfin
              have e0 : ((0 : Nat) : Int) - 1 = -1 := by omega
              rw [e0]
              go_wp2_with fail
              rw [own_string Tryz.underlying94 Tryz.underlying5 Tryz.underlying9 (Kd.own_of_R HR1.out)]
              go_wp2_with fail
              go_ret
              exact ⟨rfl, HB1.out⟩
            · obtain ⟨q, rfl⟩ : ∃ q, m = q + 1 := ⟨m - 1, by omega⟩
              have eq1 : (((q + 1 : Nat) : Int)) - 1 = (q : Int) := by omega
              rw [eq1]
              have ge0 : decide ((0 : Int) ≤ (q : Int)) = true := decide_eq_true (by omega)
              have hdec : IntKind.i64.wrap ((q : Int) - 1) = (q : Int) - 1 := IntWalk.i64_in _ (by omega)
              have HG := Aside0.mk hgg; have HM := Aside0.mk hm
              by_cases ht : q + 1 = 9
              · have hq : q = 8 := by omega
                subst hq
                have hacc : acc ++ [topB a0 9 192] ++ bigB a0 8 = uintB a0 := by have := HA1.out; unfold restU at this; rw [if_pos (by omega)] at this; rw [List.append_assoc]; exact this
                have HAC := Aside0.mk hacc
                clear hacc hgg hm hz ht eq1
                have hsh : topB a0 9 192 = 192 := rfl
                have HSH := Aside0.mk hsh
                clear hsh
                have hrest : restU a0 9 192 8 = bigB a0 8 := by unfold restU; rw [if_neg (by decide)]
                have HRE := Aside0.mk hrest
                clear hrest
                go_wp2_with (first | (at_builtin; refine Kd.R_append (Kd.int .u8) (w0 := w) w.heap.size rfl _ _ 94 5 (.int .u8 0) 1 rfl Tryz.underlying94 info5 rfl (by decide) (by omega) (.slice A1 acc.length c1) acc _ [.int .u8 _] (fun _ => True) (fun _ => False) rfl rfl rfl (fun _ hk => hk.elim) (fun _ _ => trivial) HR1.out HB1.out HB1.out.size (by have := HL1.out; omega) ?_; intro v2 w2 ho hb hgr hat2; (have HR2 := Aside0.mk ho); (have HB2 := Aside0.mk hb); clear hat2 hgr ho hb))
                go_roundg 8
                case measure => have := HG.out; omega
                case rel =>
                  refine ⟨8, _, by omega, by omega, by first | rfl | (congr 1), HB2, HR2, ⟨?_⟩, ⟨by rw [List.length_append, List.length_singleton]; have := HL1.out; omega⟩⟩
                  rw [← HAC.out, HRE.out, HSH.out]
                  skip
              · have hqs : q + 1 < 9 := by omega
                have hacc : acc ++ [a0 / 2 ^ (8 * q) % 256] ++ restU a0 9 192 q = uintB a0 := by
                  have h0 := HA1.out
                  unfold restU at h0 ⊢
                  rw [if_neg ht] at h0
                  rw [if_neg (by omega), List.append_assoc]
                  exact h0
                have hcount := shr_at a0 q (by omega)
                have h8 : decide ((q : Int) < 8) = true := decide_eq_true (by omega)
                have hne : ((q : Int) == 8) = false := beq_eq_false_iff_ne.mpr (by omega)
                have hmul8 : IntKind.i64.wrap (8 * (q : Int)) = ((8 * q : Nat) : Int) := by rw [IntWalk.i64_in _ (by omega)]; omega
                have hu8 : IntKind.u64.wrap ((8 * q : Nat) : Int) = ((8 * q : Nat) : Int) := IntWalk.u64_in _ (by omega)
                obtain ⟨e8, he8⟩ : ∃ e8 : Nat, e8 = 8 * q := ⟨_, rfl⟩
                rw [← he8] at hmul8 hu8 hacc
                have h64 : (e8 : Int) ≤ 64 := by omega
                have HAC := Aside0.mk hacc; have HQ := Aside0.mk (And.intro hqs he8)
                clear hacc hgg hm hz ht eq1 hcount hqs he8
                go_wp2_with (first | (at_builtin; refine Kd.R_append (Kd.int .u8) (w0 := w) w.heap.size rfl _ _ 94 5 (.int .u8 0) 1 rfl Tryz.underlying94 info5 rfl (by decide) (by omega) (.slice A1 acc.length c1) acc _ [.int .u8 _] (fun _ => True) (fun _ => False) rfl rfl rfl (fun _ hk => hk.elim) (fun _ _ => trivial) HR1.out HB1.out HB1.out.size (by have := HL1.out; omega) ?_; intro v2 w2 ho hb hgr hat2; (have HR2 := Aside0.mk ho); (have HB2 := Aside0.mk hb); clear hat2 hgr ho hb))
                go_roundg q
                case measure => have := HG.out; omega
                case rel =>
                  refine ⟨q, _, by have := HQ.out; omega, by omega, by first | rfl | (congr 1), HB2, HR2, ⟨?_⟩, ⟨by rw [List.length_append, List.length_singleton]; have := HL1.out; have := HQ.out; omega⟩⟩
                  exact HAC.out
  · rw [if_neg hr] at h
    exact absurd h (by simp)
end Go.Proofs.YtojcbknclfamhaaGreatDoor.A
namespace Go.Proofs.YtojcbknclfamhaaGreatDoor.A
open Go.RowKit Go.Proofs.YtojcbknclfamhaaGreatDoorW.PrintWords Go.Proofs.YtojcbknclfamhaaGreatDoorW.PrintLast Go.Proofs.YtojcbknclfamhaaGreatDoorW.PrintMore
set_option linter.unusedVariables false
set_option linter.unusedSimpArgs false
end Go.Proofs.YtojcbknclfamhaaGreatDoor.A
