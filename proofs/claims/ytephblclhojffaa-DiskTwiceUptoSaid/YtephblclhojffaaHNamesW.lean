/- DiskNames' walk. -/
import Derived.Test.YtephblclhojffaaAx0
import Derived.Test.YtephblclhojffaaHAt
import Derived.Test.YtephblclhojffaaHNameP
import Derived.Test.YtephblclhojffaaHSpace
namespace Go.Proofs.Ytephblclhojffaa.A
open Go.RowKit Go.Proofs.YtephblclhojffaaW.PrintWords Go.Proofs.YtephblclhojffaaW.PrintLast Go.Proofs.YtephblclhojffaaW.PrintMore
open Go.Maps
set_option linter.unusedVariables false
set_option linter.unusedSimpArgs false

/-- What holds at the loop's head. -/
def StepR (w0 wr : World) (db : Nat) (k : Nat) : Prop := ∃ M, At true w0.heap.size w0 wr db M ∧ Inv M k (k * 1048576)
theorem names_bs (M : DM) (k : Nat) (hk : k < M.dir.length) : (namesF M)[k]'(by simpa [namesF] using hk) = bsS M.dir[k].1 := by simp [namesF, bsS]
theorem right_calls (s : ByteArray) (hs : s.size ≤ 9223372036854775806) (hr : rightB s.data.toList = true) (w : World) :
    Calls Try.prog 33 #[.string s] w fun e w' => e = .returned (.bool true) ∧ Drawn0 w w' :=
  (tithebarnref09_Right.calls (s.size + 1) s true w (by rw [right_plain s hs, hr]))
theorem right_quiet (s : ByteArray) (hs : s.size ≤ 9223372036854775806) (hr : rightB s.data.toList = true) (w : World) (n : Nat) :
    Calls Try.prog 33 #[.string s] (w.drewN n) fun e w' => e = .returned (.bool true) ∧ ∃ m, w' = w.drewN m := by
  refine (right_calls s hs hr _).mono ?_
  rintro e w' ⟨rfl, hd⟩
  obtain ⟨m, hm⟩ := hd.out
  exact ⟨rfl, n + m, by rw [hm, World.drewN_drewN]⟩
theorem names_at' (M : DM) (k : Nat) (hk : k < M.dir.length) : rdOf ByteArray.empty (namesF M) (k : Int) = bsS (M.dir.getD k ([], 0)).1 := by
  rw [names_at M k hk]; simp [hk]
/-- What the names of a disk are. -/
theorem names_plain {M : DM} {n : Nat} (hI : Inv M n (n * 1048576)) (hR : Rising M.dir) (hn : n ≤ 301) : ∀ j, j < M.dir.length →
    Fits M 1099511627776 ∧ (M.dir.getD j ([], 0)).1.length ≤ 12 ∧ rightB (M.dir.getD j ([], 0)).1 = true ∧ readF M (M.dir.getD j ([], 0)).1 = ((M.files.getD (M.dir.getD j ([], 0)).2 ([], 0)).1, 0) ∧
      heldTo M (j + 1) = heldTo M j + ((M.files.getD (M.dir.getD j ([], 0)).2 ([], 0)).1.length) ∧ heldTo M (j + 1) ≤ 1000000000000 ∧ ∀ i, i + 1 = j → (M.dir.getD i ([], 0)).1 < (M.dir.getD j ([], 0)).1 := by
  intro j hj
  have hfit : Fits M 1099511627776 := fun i => Nat.le_trans (hI.fits i) (by omega)
  have e : M.dir.getD j ([], 0) = M.dir[j] := by simp [hj]
  rw [e]
  have hm := List.getElem_mem hj
  have hr := hI.dirP.right _ hm
  have hlen : M.dir[j].1.length ≤ 12 := by unfold rightB at hr; simp at hr; omega
  have hg : dGet M.dir M.dir[j].1 = some M.dir[j].2 := dGet_of_mem hR hm
  refine ⟨hfit, hlen, hr, ?_, heldTo_succ M j hj, ?_, ?_⟩
  · unfold readF; rw [hg]
  · have h1 := heldTo_le M _ hI.fits (j + 1)
    have h2 := hI.dirL
    have h3 : (j + 1) * (n * 1048576) ≤ 301 * (301 * 1048576) := Nat.mul_le_mul (by omega) (by omega)
    omega
  · intro i hi
    subst hi
    have e2 : M.dir.getD i ([], 0) = M.dir[i] := by simp [show i < M.dir.length by omega]
    rw [e2]
    exact rising_at hR i hj
set_option maxRecDepth 100000 in
set_option maxHeartbeats 16000000 in
theorem DiskNames.walk (space : Int) (hsp : space ≤ 9223372036854775807) (l : List S24) (hops : ∀ o ∈ l, OpOk o) (A : Option Addr) (c : Nat) (w : World) (hC : Kd.C k24 w A l.length l) (hc : l.length ≤ c) :
    Calls Try.prog 10 #[.int .i64 space, .slice A l.length c] w fun e w' => e = .returned (.bool true) ∧ Below w.heap.size w w' := by
  have hu24 := Try.underlying24
  have HC := Aside0.mk (C_take hC 300)
  have HOP : Aside0 (∀ (k : Nat) (hk : k < (earlyF l).length), OpOk (earlyF l)[k]) := ⟨fun k hk => hops _ (List.mem_of_mem_take (List.getElem_mem hk))⟩
  have hL := earlyF_len l
  have hL3 : (earlyF l).length ≤ 300 := by omega
  have hear := fun W => early.calls W A c l hc
  have HSP := Aside0.mk hsp
  change Aside0 (Kd.C k24 w A (earlyF l).length (earlyF l)) at HC
  clear hC hops hL hsp hc
  generalize hE : earlyF l = E at *
  have HL3 := Aside0.mk hL3
  clear hE hL3
  go_enter Try.func10, Try.ntmps10
  go_wp2_with fail
  refine (lives.calls _).mono ?_
  rintro e w1 ⟨rfl, hb1⟩
  have HB1 := Aside0.mk hb1
  clear hb1
  go_wp2_with fail
  refine (hear _).mono ?_
  rintro e w2 ⟨rfl, rfl⟩
  go_wp2_with fail
  refine (at_new w w2 HB1.out space).mono ?_
  rintro e w3 ⟨db, rfl, hA⟩
  have hR : Aside0 (StepR w w3 db 0) := ⟨⟨newF space, hA, (inv_new space HSP.out).mono (Nat.le_refl _) (Nat.zero_le _)⟩⟩
  clear hA hear
  go_wp2_with fail
  go_loopw [6] (fun i wr => ∃ k : Nat, k ≤ E.length ∧ i = .int .i64 k ∧ Aside0 (StepR w wr db k)) (fun i _ => E.length - (intOf i).toNat)
  case atStart => exact ⟨0, Nat.zero_le _, rfl, hR⟩
  case round =>
    clear hR
    obtain ⟨k, hk, rfl, HR⟩ := hrel
    by_cases hlt : k < E.length
    · obtain ⟨M, hA, hI⟩ := HR.out
      obtain ⟨ad, A4, c4, rfl, g0, g1, g2, g3, g4, hl4, hk4⟩ := op_at HC.out k hlt
      have hB := hA.bel
      have x0 := pw_cell_below hB g0
      have x1 := pw_cell_below hB g1
      have x2 := pw_cell_below hB g2
      have x3 := pw_cell_below hB g3
      have x4 := pw_cell_below hB g4
      have hok := HOP.out k hlt
      have hL3 := HL3.out
      have hdo := hA.does hI (by omega) (by omega) E[k] A4 c4 hk4 hl4 (by have := hok.s1; unfold maxLen; omega) (by have := hok.s2; omega)
      have hI' := step_pre hI hok
      have HI' := Aside0.mk hI'; have HLT := Aside0.mk hlt
      have hkn : k ≤ 300 := by omega
      have HKN := Aside0.mk hkn
      clear hA hI hI' hB hok g0 g1 g2 g3 g4 hl4 hk4 hL3 HR hkn
      generalize stepF M E[k] = res at hdo HI'
      generalize hoo : E[k] = o at *
      clear hoo
      go_wp2_with fail
      refine hdo.mono ?_
      rintro e w5 ⟨rfl, hA5⟩
      generalize res.1 = M5 at *
      have A5 := Aside0.mk hA5
      have hdl : M5.dir.length ≤ 1048576 := by have h1 := HI'.out.dirL; have h2 := HKN.out; omega
      have hnm := hA5.names hdl
      clear hA5 hdo x0 x1 x2 x3 x4 hdl
      go_wp2_with fail
      refine hnm.mono ?_
      rintro e w6 ⟨⟨A6, c6, rfl, hc6, hkd⟩, hA6, hb6⟩
      obtain ⟨L, hLl⟩ : ∃ L, L = (namesF M5).length := ⟨_, rfl⟩
      have hLd : L = M5.dir.length := by rw [hLl]; simp [namesF]
      rw [← hLl] at hkd hc6
      have HP := Aside0.mk (names_plain HI'.out hA6.rising (by have := HKN.out; omega))
      have HLD := Aside0.mk hLd
      have HR0 : Aside0 (At true w.heap.size w w6 db M5 ∧ Kd.C Kd.string w6 A6 L (namesF M5)) := ⟨hA6, hkd⟩
      rw [← hLl]
      have hL0 : L ≤ 301 := by rw [hLd]; have h1 := HI'.out.dirL; have h2 := HKN.out; omega
      clear hkd hA6 hb6 hnm hLd hLl hc6 A5
      obtain ⟨wo, rfl⟩ : ∃ wo, wo = wr := ⟨_, rfl⟩
      go_wp2_with fail
      go_loopw [8, 9] (fun n i wr => ∃ j : Nat, j ≤ L ∧ n = .int .i64 (heldTo M5 j) ∧ i = .int .i64 j ∧ Aside0 (At true w.heap.size w wr db M5 ∧ Kd.C Kd.string wr A6 L (namesF M5))) (fun _ i _ => L - (intOf i).toNat)
      case atStart => exact ⟨0, Nat.zero_le _, rfl, rfl, HR0⟩
      case round =>
        clear HR0
        obtain ⟨j, hj, rfl, rfl, HR⟩ := hrel
        by_cases hlt2 : j < L
        · have hA := HR.out.1
          obtain ⟨p1, p2, p3, p4, p5, p7, p6⟩ := HP.out j (by rw [← HLD.out]; exact hlt2)
          obtain ⟨ad6, rfl, hcell⟩ := Kd.at_string HR.out.2 (j : Int) (by omega) (by omega)
          rw [names_at' M5 j (by rw [← HLD.out]; exact hlt2), Int.toNat_natCast] at hcell
          have hrd := hA.read p1 (bsS (M5.dir.getD j ([], 0)).1) (by rw [bsS_size]; unfold maxLen; omega)
          rw [bsS_list, p4] at hrd
          have hri := right_quiet (bsS (M5.dir.getD j ([], 0)).1) (by rw [bsS_size]; omega) (by rw [bsS_list]; exact p3)
          have hsz := bsS_size (M5.files.getD (M5.dir.getD j ([], 0)).2 ([], 0)).1
          rw [← hsz] at p5
          simp only at hrd
          have HLT2 := Aside0.mk hlt2; have HA := Aside0.mk hA; have HKD := Aside0.mk HR.out.2
          have b1 : 0 ≤ (heldTo M5 j : Int) := by omega
          have b2 : (heldTo M5 j : Int) ≤ 1000000000000 := by omega
          generalize bsS (M5.files.getD (M5.dir.getD j ([], 0)).2 ([], 0)).1 = fs at hrd p5
          have b3 : (fs.size : Int) ≤ 1000000000000 := by omega
          have b4 : 0 ≤ (fs.size : Int) := by omega
          have hsum := Aside0.mk p5
          clear p1 p2 p3 p4 p5 p7 hsz hA
          rcases Nat.eq_zero_or_pos j with h0 | h0
          · subst h0
            generalize bsS (M5.dir.getD 0 ([], 0)).1 = nm at *
            clear p6
            have hcell1 : wr.cell? ad6 = some (.string nm) := by simpa [Addr.add] using hcell
            clear hcell
            have hltz : (0 : Int) < (L : Int) := by omega
            go_wp2_with fail
            refine hrd.mono ?_
            rintro e w7 ⟨rfl, rfl⟩
            go_wp2_with fail
            go_quiet ((go_at_call 33; exact hri _ _))
            have HN : Aside0 (At true w.heap.size w (w7.drewN nq) db M5 ∧ Kd.C Kd.string (w7.drewN nq) (some ad6) L (namesF M5)) := ⟨HA.out.below' (below_drewN (Below.refl _ _) _), Kd.C_below HKD.out (below_drewN (Below.refl _ _) _)⟩
            go_wp2_with fail
            go_roundw
            case rel => exact ⟨1, by have := HLT2.out; omega, by rw [hsum.out]; go_num, by go_num, HN⟩
            case measure => simp [intOf]; have := HLT2.out; omega
          · obtain ⟨i, hij⟩ : ∃ i, i + 1 = j := ⟨j - 1, by omega⟩
            have hp := p6 i hij
            obtain ⟨ad7, h7, hcell0⟩ := Kd.at_string HR.out.2 (i : Int) (by omega) (by omega)
            obtain rfl := Option.some.inj h7
            rw [names_at' M5 i (by rw [← HLD.out]; omega), Int.toNat_natCast] at hcell0
            have hle : Op.bytesLess (bsS (M5.dir.getD i ([], 0)).1).toList (bsS (M5.dir.getD j ([], 0)).1).toList = true := by
              rw [bytes_less, ByteArray.toList_eq, ByteArray.toList_eq, bsS_list, bsS_list]; exact decide_eq_true hp
            generalize bsS (M5.dir.getD j ([], 0)).1 = nm at *
            generalize bsS (M5.dir.getD i ([], 0)).1 = nm0 at *
            clear p6 hp
            have hltz : (j : Int) < (L : Int) := by omega
            have hltz1 : (i : Int) < (L : Int) := by omega
            have hwr : IntKind.i64.wrap ((j : Int) - 1) = (i : Int) := by rw [IntWalk.i64_in _ (by omega)]; omega
            have hgt : decide ((0 : Int) < (j : Int)) = true := by rw [decide_eq_true_eq]; omega
            have hi0 : 0 ≤ (i : Int) := by omega
            have hgt1 : (0 : Int) < (j : Int) := by omega
            have hgt2 : decide (0 < j) = true := by rw [decide_eq_true_eq]; exact h0
            clear hij
            go_wp2_with fail
            refine hrd.mono ?_
            rintro e w7 ⟨rfl, rfl⟩
            go_wp2_with fail
            go_quiet ((go_at_call 33; exact hri _ _))
            have HN : Aside0 (At true w.heap.size w (w7.drewN nq) db M5 ∧ Kd.C Kd.string (w7.drewN nq) (some ad6) L (namesF M5)) := ⟨HA.out.below' (below_drewN (Below.refl _ _) _), Kd.C_below HKD.out (below_drewN (Below.refl _ _) _)⟩
            go_wp2_with fail
            go_roundw
            case rel => exact ⟨j + 1, by have := HLT2.out; omega, by rw [hsum.out]; go_num, by go_num, HN⟩
            case measure => simp [intOf]; have := HLT2.out; omega
        · obtain rfl : j = L := by omega
          have hA := HR.out.1
          have hhe := hA.held HI'.out (by have := HKN.out; omega) (by have := HKN.out; omega)
          clear hA
          go_wp2_with fail
          refine hhe.mono ?_
          rintro e w8 ⟨rfl, hA8, hb8⟩
          have HN : Aside0 (StepR w w8 db (k + 1)) := ⟨⟨M5, hA8, HI'.out⟩⟩
          clear hb8 hA8 hhe
          rw [show heldTo M5 j = held M5 by rw [HLD.out]; exact heldTo_all M5]
          have hne : ((held M5 : Int) != (held M5 : Int)) = false := by simp
          have hkn := HKN.out
          have hlt' := HLT.out
          go_wp2_with fail
          go_roundw
          case rel => exact ⟨k + 1, by have := HLT.out; omega, by go_num, HN⟩
          case measure => simp [intOf]; have := HLT.out; omega
    · obtain ⟨M, hA, _⟩ := HR.out
      have HB := Aside0.mk hA.bel
      have hn : ¬ k < E.length := hlt
      clear hA
      go_wp2
      go_ret
      exact ⟨rfl, HB.out⟩
end Go.Proofs.Ytephblclhojffaa.A
