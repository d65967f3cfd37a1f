/- DiskSpace's walk. -/
import Derived.Test.YtephblclhojffaaAx0
import Derived.Test.YtephblclhojffaaHAt
import Derived.Test.YtephblclhojffaaHSpaceP
namespace Go.Proofs.Ytephblclhojffaa.A
open Go.RowKit Go.Proofs.YtephblclhojffaaW.PrintWords Go.Proofs.YtephblclhojffaaW.PrintLast Go.Proofs.YtephblclhojffaaW.PrintMore
open Go.Maps
set_option linter.unusedVariables false
set_option linter.unusedSimpArgs false

/-- What holds at the loop's head. -/
def SpaceR (w0 wr : World) (db : Nat) (space : Int) (k : Nat) : Prop := ∃ M, At true w0.heap.size w0 wr db M ∧ Inv M k (k * 1048576) ∧ spaceOk M ∧ M.space = mx0 space
theorem mx0_max (n : Int) : mx0 n = max n 0 := by unfold mx0; split <;> omega
theorem step_pre {M : DM} {k : Nat} {o : S24} (hI : Inv M k (k * 1048576)) (ho : OpOk o) : Inv (stepF M o).1 (k + 1) ((k + 1) * 1048576) := by
  have h := inv_does hI (kindF o.f0) o.f1.data.toList o.f2.data.toList o.f3 ho.n3 o.f4
  refine h.mono (Nat.le_refl _) ?_
  have h1 := ho.s2
  have h2 : o.f2.data.toList.length = o.f2.size := by rw [Array.length_toList]; rfl
  rw [h2, Nat.succ_mul]
  omega
set_option maxRecDepth 100000 in
set_option maxHeartbeats 16000000 in
theorem DiskSpace.walk (space : Int) (hsp : space ≤ 9223372036854775807) (l : List S24) (hops : ∀ o ∈ l, OpOk o) (A : Option Addr) (c : Nat) (w : World) (hC : Kd.C k24 w A l.length l) (hc : l.length ≤ c) :
    Calls Try.prog 8 #[.int .i64 space, .slice A l.length c] w fun e w' => e = .returned (.bool true) ∧ Below w.heap.size w w' := by
  have hu24 := Try.underlying24
  have HC := Aside0.mk (C_take hC 300)
  have HOP : Aside0 (∀ (k : Nat) (hk : k < (earlyF l).length), OpOk (earlyF l)[k]) := ⟨fun k hk => hops _ (List.mem_of_mem_take (List.getElem_mem hk))⟩
  have hL := earlyF_len l
  have hL3 : (earlyF l).length ≤ 300 := by omega
  have hear := fun W => early.calls W A c l hc
  have HSP := Aside0.mk hsp
  change Aside0 (Kd.C k24 w A (earlyF l).length (earlyF l)) at HC
  clear hC hops hL hsp hc
  generalize hE : earlyF l = E at *
  have HL3 := Aside0.mk hL3
  clear hE hL3
  go_enter Try.func8, Try.ntmps8
  go_wp2_with fail
  refine (lives.calls _).mono ?_
  rintro e w1 ⟨rfl, hb1⟩
  have HB1 := Aside0.mk hb1
  clear hb1
  go_wp2_with fail
  refine (hear _).mono ?_
  rintro e w2 ⟨rfl, rfl⟩
  go_wp2_with fail
  refine (at_new w w2 HB1.out space).mono ?_
  rintro e w3 ⟨db, rfl, hA⟩
  have hR : Aside0 (SpaceR w w3 db space 0) := ⟨⟨newF space, hA, (inv_new space HSP.out).mono (Nat.le_refl _) (Nat.zero_le _), by show ((held (newF space) : Nat) : Int) ≤ mx0 space; have := mx0_range space; show (0 : Int) ≤ _; exact this, rfl⟩⟩
  clear hA hear
  go_wp2_with fail
  go_loopw [6] (fun i wr => ∃ k : Nat, k ≤ E.length ∧ i = .int .i64 k ∧ Aside0 (SpaceR w wr db space k)) (fun i _ => E.length - (intOf i).toNat)
  case atStart => exact ⟨0, Nat.zero_le _, rfl, hR⟩
  case round =>
    clear hR
    obtain ⟨k, hk, rfl, HR⟩ := hrel
    by_cases hlt : k < E.length
    · obtain ⟨M, hA, hI, hS, hsp⟩ := HR.out
      obtain ⟨ad, A4, c4, rfl, g0, g1, g2, g3, g4, hl4, hk4⟩ := op_at HC.out k hlt
      have hB := hA.bel
      have x0 := pw_cell_below hB g0
      have x1 := pw_cell_below hB g1
      have x2 := pw_cell_below hB g2
      have x3 := pw_cell_below hB g3
      have x4 := pw_cell_below hB g4
      have hok := HOP.out k hlt
      have hki := kind.calls (w := wr) E[k] A4 c4 (Kd.C_below hk4 hB) hl4
      have hL3 := HL3.out
      have hdo := hA.does hI (by omega) (by omega) E[k] A4 c4 hk4 hl4 (by have := hok.s1; unfold maxLen; omega) (by have := hok.s2; omega)
      have hI' := step_pre hI hok
      have hkn : k ≤ 300 := by omega
      have HKI := Aside0.mk (fun W (hb : Below w.heap.size w W) => kind.calls (w := W) E[k] A4 c4 (Kd.C_below hk4 hb) hl4)
      have HX : Aside0 (∀ W, Below w.heap.size w W → W.cell? (ad.add (k * 5)) = some (.int .i64 E[k].f0) ∧ W.cell? ⟨(ad.add (k * 5)).block, (ad.add (k * 5)).off + 1, none⟩ = some (.string E[k].f1) ∧ W.cell? ⟨(ad.add (k * 5)).block, (ad.add (k * 5)).off + 2, none⟩ = some (.string E[k].f2) ∧
          W.cell? ⟨(ad.add (k * 5)).block, (ad.add (k * 5)).off + 3, none⟩ = some (.int .i64 E[k].f3) ∧ W.cell? ⟨(ad.add (k * 5)).block, (ad.add (k * 5)).off + 4, none⟩ = some (.slice A4 E[k].f4.length c4)) := ⟨fun W hb => ⟨pw_cell_below hb g0, pw_cell_below hb g1, pw_cell_below hb g2, pw_cell_below hb g3, pw_cell_below hb g4⟩⟩
      have HDO : Aside0 (∀ W M, At true w.heap.size w W db M → Inv M k (k * 1048576) → Calls Try.prog 19 #[.pointer (some ⟨db, 0, none⟩), .agg #[.int .i64 E[k].f0, .string E[k].f1, .string E[k].f2, .int .i64 E[k].f3, .slice A4 E[k].f4.length c4]] W fun e w' => e = .returned (.int .i64 (doesF M (kindF E[k].f0) E[k].f1.data.toList E[k].f2.data.toList E[k].f3 E[k].f4).2) ∧ At true w.heap.size w w' db (doesF M (kindF E[k].f0) E[k].f1.data.toList E[k].f2.data.toList E[k].f3 E[k].f4).1) :=
        ⟨fun W M h hI => h.does hI (by omega) (by omega) E[k] A4 c4 hk4 hl4 (by have := hok.s1; unfold maxLen; omega) (by have := hok.s2; omega)⟩
      have HA := Aside0.mk hA; have HI := Aside0.mk hI; have HS := Aside0.mk hS; have HSP2 := Aside0.mk hsp; have HI' := Aside0.mk hI'; have HB := Aside0.mk hB; have HKN := Aside0.mk hkn; have HLT := Aside0.mk hlt
      clear hA hI hS hsp hI' hB hok g0 g1 g2 g3 g4 hl4 hk4 hL3
      unfold stepF at hdo HI'
      generalize hkd : kindF E[k].f0 = kd at hki hdo HI' HKI ⊢
      have hcase := kind_cases E[k].f0
      rw [hkd] at hcase
      have HKD := Aside0.mk hkd
      clear hkd
      generalize hoo : E[k] = o at *
      clear hoo
      have HST := Aside0.mk (space_step HI.out HS.out kd)
      by_cases h6 : kd = 6
      · subst h6
        have HN : Aside0 (SpaceR w wr db space (k + 1)) := ⟨⟨M, HA.out, HI.out.mono (Nat.le_succ _) (by rw [Nat.succ_mul]; omega), HS.out, HSP2.out⟩⟩
        clear hcase hdo
        go_wp2_with fail
        refine hki.mono ?_
        rintro e w4 ⟨rfl, hb4⟩
        have HN4 : Aside0 (SpaceR w w4 db space (k + 1)) := ⟨by obtain ⟨M', h1, h2, h3, h4⟩ := HN.out; exact ⟨M', h1.below hb4, h2, h3, h4⟩⟩
        clear hb4 hki
        go_wp2_with fail
        go_roundw
        case rel => exact ⟨k + 1, by have := HLT.out; omega, by go_num, HN4⟩
        case measure => simp [intOf]; have := HLT.out; omega
      · have b6 : (kd == 6) = false := beq_eq_false_iff_ne.2 h6
        by_cases h9 : kd = 9
        · subst h9
          have e9 : doesF M 9 o.f1.data.toList o.f2.data.toList o.f3 o.f4 = (crashF M o.f3 o.f4, 0) := rfl
          rw [e9] at hdo HI'
          clear hcase
          go_wp2_with fail
          refine hki.mono ?_
          rintro e w4 ⟨rfl, hb4⟩
          have A4' := Aside0.mk (HA.out.below hb4)
          obtain ⟨u0, u1, u2, u3, u4⟩ := HX.out w4 A4'.out.bel
          clear hb4 hki x0 x1 x2 x3 x4
          have hdo' := HDO.out w4 M A4'.out HI.out
          rw [show kindF o.f0 = 9 from HKD.out, e9] at hdo'
          go_wp2_with fail
          refine hdo'.mono ?_
          rintro e w5 ⟨rfl, hA5⟩
          have A5 := Aside0.mk hA5
          obtain ⟨v0, v1, v2, v3, v4⟩ := HX.out w5 A5.out.bel
          have hki5 := HKI.out w5 A5.out.bel
          clear hA5 hdo' hdo u0 u1 u2 u3 u4
          go_wp2_with fail
          refine hki5.mono ?_
          rintro e w6 ⟨rfl, hb6⟩
          have A6 := Aside0.mk (A5.out.below' hb6)
          obtain ⟨u0, u1, u2, u3, u4⟩ := HX.out w6 A6.out.bel
          have hki6 := HKI.out w6 A6.out.bel
          clear hb6 hki5 v0 v1 v2 v3 v4
          go_wp2_with fail
          refine hki6.mono ?_
          rintro e w7 ⟨rfl, hb7⟩
          have A7 := Aside0.mk (A6.out.below' hb7)
          have hhe := A7.out.held HI'.out (by omega) (by omega)
          clear hb7 hki6 u0 u1 u2 u3 u4
          go_wp2_with fail
          refine hhe.mono ?_
          rintro e w8 ⟨rfl, hA8, hb8⟩
          have A8 := Aside0.mk hA8
          clear hA8 hb8 hhe e9
          have HC8 := Aside0.mk (crash_space M o.f3 o.f4)
          generalize crashF M o.f3 o.f4 = M8 at *
          by_cases hh : max space 0 < (held M8 : Int)
          · have HH := Aside0.mk hh
            have hd : decide (max space 0 < (held M8 : Int)) = true := by rw [decide_eq_true_eq]; exact hh
            clear hh
            go_wp2
            go_ret
            exact ⟨rfl, A8.out.bel⟩
          · have hd : decide (max space 0 < (held M8 : Int)) = false := by rw [decide_eq_false_iff_not]; exact hh
            have HN : Aside0 (SpaceR w w8 db space (k + 1)) := ⟨⟨_, A8.out, HI'.out, by unfold spaceOk; rw [HC8.out, HSP2.out, mx0_max]; omega, by rw [HC8.out]; exact HSP2.out⟩⟩
            clear hh
            go_wp2_with fail
            go_roundw
            case rel => exact ⟨k + 1, by have := HLT.out; omega, by go_num, HN⟩
            case measure => simp [intOf]; have := HLT.out; omega
        · have b9 : (kd == 9) = false := beq_eq_false_iff_ne.2 h9
          have b9' : (kd != 9) = true := bne_iff_ne.2 h9
          obtain ⟨s1, s2, s3⟩ := HST.out (by omega) o.f1.data.toList o.f2.data.toList o.f3 o.f4
          have HN : ∀ W, At true w.heap.size w W db (doesF M kd o.f1.data.toList o.f2.data.toList o.f3 o.f4).1 → SpaceR w W db space (k + 1) := fun W h => ⟨_, h, HI'.out, s1, by rw [s2]; exact HSP2.out⟩
          have hh : ¬ max space 0 < (held (doesF M kd o.f1.data.toList o.f2.data.toList o.f3 o.f4).1 : Int) := by
            unfold spaceOk at s1; rw [s2, HSP2.out, mx0_max] at s1; omega
          have hd : decide (max space 0 < (held (doesF M kd o.f1.data.toList o.f2.data.toList o.f3 o.f4).1 : Int)) = false := by rw [decide_eq_false_iff_not]; exact hh
          have HNN := Aside0.mk HN
          clear HN hh s1 s2 hcase h6 h9
          generalize hres : doesF M kd o.f1.data.toList o.f2.data.toList o.f3 o.f4 = res at *
          have HRES := Aside0.mk hres
          clear hres
          have HS3 := Aside0.mk s3
          clear s3
          go_wp2_with fail
          refine hki.mono ?_
          rintro e w4 ⟨rfl, hb4⟩
          have A4' := Aside0.mk (HA.out.below hb4)
          obtain ⟨u0, u1, u2, u3, u4⟩ := HX.out w4 A4'.out.bel
          clear hb4 hki x0 x1 x2 x3 x4
          have hdo' := HDO.out w4 M A4'.out HI.out
          rw [show kindF o.f0 = kd from HKD.out, HRES.out] at hdo'
          go_wp2_with fail
          refine hdo'.mono ?_
          rintro e w5 ⟨rfl, hA5⟩
          have A5 := Aside0.mk hA5
          obtain ⟨v0, v1, v2, v3, v4⟩ := HX.out w5 A5.out.bel
          have hki5 := HKI.out w5 A5.out.bel
          clear hA5 hdo' hdo u0 u1 u2 u3 u4
          go_wp2_with fail
          refine hki5.mono ?_
          rintro e w6 ⟨rfl, hb6⟩
          have A6 := Aside0.mk (A5.out.below' hb6)
          have hhe := A6.out.held HI'.out (by omega) (by omega)
          clear hb6 hki5 v0 v1 v2 v3 v4
          go_wp2_with fail
          refine hhe.mono ?_
          rintro e w7 ⟨rfl, hA7, hb7⟩
          have A7 := Aside0.mk hA7
          obtain ⟨u0, u1, u2, u3, u4⟩ := HX.out w7 A7.out.bel
          have hki7 := HKI.out w7 A7.out.bel
          clear hA7 hb7 hhe
          by_cases he : res.2 = 10
          · have hk1 := HS3.out he
            subst hk1
            have be : (res.2 == 10) = true := beq_iff_eq.2 he
            clear he
            go_wp2_with fail
            refine hki7.mono ?_
            rintro e w8 ⟨rfl, hb8⟩
            have A8 := Aside0.mk (A7.out.below' hb8)
            obtain ⟨v0, v1, v2, v3, v4⟩ := HX.out w8 A8.out.bel
            have hki8 := HKI.out w8 A8.out.bel
            clear hb8 hki7 u0 u1 u2 u3 u4
            go_wp2_with fail
            refine hki8.mono ?_
            rintro e w9 ⟨rfl, hb9⟩
            have HN := Aside0.mk (HNN.out w9 (A8.out.below' hb9))
            clear hb9 hki8 v0 v1 v2 v3 v4
            go_wp2_with fail
            go_roundw
            case rel => exact ⟨k + 1, by have := HLT.out; omega, by go_num, HN⟩
            case measure => simp [intOf]; have := HLT.out; omega
          · have be : (res.2 == 10) = false := beq_eq_false_iff_ne.2 he
            clear he
            go_wp2_with fail
            refine hki7.mono ?_
            rintro e w8 ⟨rfl, hb8⟩
            have HN := Aside0.mk (HNN.out w8 (A7.out.below' hb8))
            clear hb8 hki7 u0 u1 u2 u3 u4
            go_wp2_with fail
            go_roundw
            case rel => exact ⟨k + 1, by have := HLT.out; omega, by go_num, HN⟩
            case measure => simp [intOf]; have := HLT.out; omega
    · obtain ⟨M, hA, _⟩ := HR.out
      have HB := Aside0.mk hA.bel
      have hn : ¬ k < E.length := hlt
      clear hA
      go_wp2
      go_ret
      exact ⟨rfl, HB.out⟩
end Go.Proofs.Ytephblclhojffaa.A
