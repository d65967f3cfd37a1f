/- DiskRefused's walk. -/
import Derived.Test.YtephblclhojffaaAx0
import Derived.Test.YtephblclhojffaaHTwo
import Derived.Test.YtephblclhojffaaHShared
namespace Go.Proofs.Ytephblclhojffaa.A
open Go.RowKit Go.Proofs.YtephblclhojffaaW.PrintWords Go.Proofs.YtephblclhojffaaW.PrintLast Go.Proofs.YtephblclhojffaaW.PrintMore
open Go.Maps
set_option linter.unusedVariables false
set_option linter.unusedSimpArgs false

/-- What holds at the loop's head: both disks are alike. -/
def TwoR (w0 wr : World) (d e : Nat) (k : Nat) : Prop := ∃ M, Two w0 wr d e M M ∧ Inv M k (k * 1048576)
theorem step_fail (M : DM) (o : S24) (h0 : 0 ≤ kindF o.f0) (h5 : kindF o.f0 ≤ 5) (he : (stepF M o).2 ≠ 0) : (stepF M o).1 = tick M := fail_tick h0 h5 he
set_option maxRecDepth 100000 in
set_option maxHeartbeats 16000000 in
theorem DiskRefused.walk (l : List S24) (hops : ∀ o ∈ l, OpOk o) (A : Option Addr) (c : Nat) (b1 b2 : S24) (B1 B2 : Option Addr) (e1 e2 : Nat) (w : World) (hC : Kd.C k24 w A l.length l) (hc : l.length ≤ c)
    (hok : OpOk b1) (hk1 : (Kd.int .i64).C w B1 b1.f4.length b1.f4) (hl1 : b1.f4.length ≤ e1) (hk2 : (Kd.int .i64).C w B2 b2.f4.length b2.f4) (hl2 : b2.f4.length ≤ e2) :
    Calls Try.prog 7 #[.slice A l.length c, .agg #[.int .i64 b1.f0, .string b1.f1, .string b1.f2, .int .i64 b1.f3, .slice B1 b1.f4.length e1], .agg #[.int .i64 b2.f0, .string b2.f1, .string b2.f2, .int .i64 b2.f3, .slice B2 b2.f4.length e2]] w fun e w' => e = .returned (.bool true) ∧ Below w.heap.size w w' := by
  have hu24 := Try.underlying24
  have HOK := Aside0.mk hok
  clear hok
  have hC1 := C_take hC 300
  have HOP : Aside0 (∀ (k : Nat) (hk : k < (earlyF l).length), OpOk (earlyF l)[k]) := ⟨fun k hk => hops _ (List.mem_of_mem_take (List.getElem_mem hk))⟩
  have hL := earlyF_len l
  have hL3 : (earlyF l).length ≤ 300 := by omega
  have hear := fun W => early.calls W A c l hc
  change Kd.C k24 w A (earlyF l).length (earlyF l) at hC1
  clear hC hops hL hc
  generalize hE : earlyF l = E at *
  have HL3 := Aside0.mk hL3
  clear hE hL3
  obtain ⟨x1, hx1⟩ : ∃ x, x = Obj.cells #[.int .i64 b1.f0, .string b1.f1, .string b1.f2, .int .i64 b1.f3, .slice B1 b1.f4.length e1] 24 (0, 0) := ⟨_, rfl⟩
  obtain ⟨x2, hx2⟩ : ∃ x, x = Obj.cells #[.int .i64 b2.f0, .string b2.f1, .string b2.f2, .int .i64 b2.f3, .slice B2 b2.f4.length e2] 24 (0, 0) := ⟨_, rfl⟩
  have hb0 : Below w.heap.size w (w.alloc x1) := (Below.refl w.heap.size w).alloc (Nat.le_refl _) x1
  have hb1 : Below w.heap.size w ((w.alloc x1).alloc x2) := hb0.alloc (by simp) x2
  have HB0 := Aside0.mk hb1
  have HC := Aside0.mk (Kd.C_below hC1 hb1)
  have HK1 := Aside0.mk (Kd.C_below hk1 hb1)
  have HK2 := Aside0.mk (Kd.C_below hk2 hb1)
  have hs1 : (w.alloc x1).heap.size = w.heap.size + 1 := by simp
  have HX1 : Aside0 (BoxAt ((w.alloc x1).alloc x2) w.heap.size b1 B1 e1) := ⟨by unfold BoxAt; rw [((Below.refl (w.alloc x1).heap.size (w.alloc x1)).alloc (Nat.le_refl _) x2).block _ (by omega), heap_alloc, hx1]⟩
  have HX2 : Aside0 (BoxAt ((w.alloc x1).alloc x2) (w.heap.size + 1) b2 B2 e2) := ⟨by unfold BoxAt; rw [← hs1, heap_alloc, hx2]⟩
  have HL1 := Aside0.mk hl1; have HL2 := Aside0.mk hl2
  clear hb0 hb1 hC1 hk1 hk2 hl1 hl2 hs1
  subst hx1 hx2
  go_enter Try.func7, Try.ntmps7
  go_wp2_with fail
  generalize (w.alloc (Obj.cells #[.int .i64 b1.f0, .string b1.f1, .string b1.f2, .int .i64 b1.f3, .slice B1 b1.f4.length e1] 24 (0, 0))).alloc (Obj.cells #[.int .i64 b2.f0, .string b2.f1, .string b2.f2, .int .i64 b2.f3, .slice B2 b2.f4.length e2] 24 (0, 0)) = w0 at *
  refine (lives.calls _).mono ?_
  rintro e w1 ⟨rfl, hb1⟩
  have HB1 := Aside0.mk hb1
  clear hb1
  go_wp2_with fail
  refine (hear _).mono ?_
  rintro e w2 ⟨rfl, rfl⟩
  go_wp2_with fail
  refine (at_new w0 w2 HB1.out 500).mono ?_
  rintro e w3 ⟨db, rfl, hA⟩
  have hne := two_new hA 500
  clear hA hear
  go_wp2_with fail
  refine hne.mono ?_
  rintro e w4 ⟨eb, rfl, hT⟩
  have hR : Aside0 (TwoR w0 w4 db eb 0) := ⟨⟨newF 500, hT, (inv_new 500 (by omega)).mono (Nat.le_refl _) (Nat.zero_le _)⟩⟩
  clear hT hne
  go_wp2_with fail
  go_loopw [9] (fun i wr => ∃ k : Nat, k ≤ E.length ∧ i = .int .i64 k ∧ Aside0 (TwoR w0 wr db eb k)) (fun i _ => E.length - (intOf i).toNat)
  case atStart => exact ⟨0, Nat.zero_le _, rfl, hR⟩
  case round =>
    clear hR
    obtain ⟨k, hk, rfl, HR⟩ := hrel
    by_cases hlt : k < E.length
    · obtain ⟨M, hT, hI⟩ := HR.out
      obtain ⟨ad, A4, c4, rfl, g0, g1, g2, g3, g4, hl4, hk4⟩ := op_at HC.out k hlt
      have hB := hT.bel
      have x0 := pw_cell_below hB g0
      have x1 := pw_cell_below hB g1
      have x2 := pw_cell_below hB g2
      have x3 := pw_cell_below hB g3
      have x4 := pw_cell_below hB g4
      have hok := HOP.out k hlt
      have hL3 := HL3.out
      have hdo := hT.does1 hI (by omega) (by omega) E[k] A4 c4 hk4 hl4 (by have := hok.s1; unfold maxLen; omega) (by have := hok.s2; omega)
      have HDO2 : Aside0 (∀ W M', Two w0 W db eb M' M → Calls Try.prog 19 #[.pointer (some ⟨eb, 0, none⟩), .agg #[.int .i64 E[k].f0, .string E[k].f1, .string E[k].f2, .int .i64 E[k].f3, .slice A4 E[k].f4.length c4]] W fun e w' => e = .returned (.int .i64 (stepF M E[k]).2) ∧ Two w0 w' db eb M' (stepF M E[k]).1) :=
        ⟨fun W M' h => h.does2 hI (by omega) (by omega) E[k] A4 c4 hk4 hl4 (by have := hok.s1; unfold maxLen; omega) (by have := hok.s2; omega)⟩
      have HX : Aside0 (∀ W, Below w0.heap.size w0 W → W.cell? (ad.add (k * 5)) = some (.int .i64 E[k].f0) ∧ W.cell? ⟨(ad.add (k * 5)).block, (ad.add (k * 5)).off + 1, none⟩ = some (.string E[k].f1) ∧ W.cell? ⟨(ad.add (k * 5)).block, (ad.add (k * 5)).off + 2, none⟩ = some (.string E[k].f2) ∧
          W.cell? ⟨(ad.add (k * 5)).block, (ad.add (k * 5)).off + 3, none⟩ = some (.int .i64 E[k].f3) ∧ W.cell? ⟨(ad.add (k * 5)).block, (ad.add (k * 5)).off + 4, none⟩ = some (.slice A4 E[k].f4.length c4)) := ⟨fun W hb => ⟨pw_cell_below hb g0, pw_cell_below hb g1, pw_cell_below hb g2, pw_cell_below hb g3, pw_cell_below hb g4⟩⟩
      have hI' := step_pre hI hok
      have HI' := Aside0.mk hI'
      clear hT hI hI' hB hok g0 g1 g2 g3 g4 hl4 hk4 HR
      generalize stepF M E[k] = res at *
      generalize hoo : E[k] = o at *
      clear hoo
      go_wp2_with fail
      refine hdo.mono ?_
      rintro e w5 ⟨rfl, hT5⟩
      obtain ⟨u0, u1, u2, u3, u4⟩ := HX.out w5 hT5.bel
      have hdo2 := HDO2.out w5 _ hT5
      clear hT5 hdo x0 x1 x2 x3 x4
      go_wp2_with fail
      refine hdo2.mono ?_
      rintro e w6 ⟨rfl, hT6⟩
      have HN : Aside0 (TwoR w0 w6 db eb (k + 1)) := ⟨⟨_, hT6, HI'.out⟩⟩
      clear hT6 hdo2 u0 u1 u2 u3 u4
      go_wp2_with fail
      go_roundw
      case rel => exact ⟨k + 1, by omega, by go_num, HN⟩
      case measure => simp [intOf]; omega
    · obtain ⟨M, hT, hI⟩ := HR.out
      have hn : ¬ k < E.length := hlt
      have hk3 : k ≤ 300 := by have := HL3.out; omega
      have HKN := Aside0.mk hk3
      have hx1 := HX1.out.below hT.bel
      have x0 := cells_of hx1 0 rfl
      have x1 := cells_of hx1 1 rfl
      have x2 := cells_of hx1 2 rfl
      have x3 := cells_of hx1 3 rfl
      have x4 := cells_of hx1 4 rfl
      have hki := kind.calls (w := wr) b1 B1 e1 (Kd.C_below HK1.out hT.bel) HL1.out
      have HT := Aside0.mk hT; have HI := Aside0.mk hI
      have HFT := Aside0.mk (step_fail M b1)
      have hkc := kind_cases b1.f0
      have HKP := Aside0.mk (show 0 ≤ kindF b1.f0 by omega)
      clear hx1 hT hI HR hkc
      generalize kindF b1.f0 = kd at *
      by_cases h5 : 5 < kd
      · have hd : decide ((5 : Int) < kd) = true := decide_eq_true h5
        go_wp2_with fail
        refine hki.mono ?_
        rintro e w5 ⟨rfl, hb5⟩
        have HT5 := Aside0.mk (HT.out.below hb5)
        clear hb5 hki x0 x1 x2 x3 x4
        have HH := Aside0.mk h5
        clear h5
        go_wp2
        go_ret
        exact ⟨rfl, HB0.out.trans (HT5.out.bel.mono HB0.out.size)⟩
      · have hd : decide ((5 : Int) < kd) = false := decide_eq_false h5
        have HH := Aside0.mk h5
        clear h5
        go_wp2_with fail
        refine hki.mono ?_
        rintro e w5 ⟨rfl, hb5⟩
        have HT5 := Aside0.mk (HT.out.below hb5)
        clear hb5 hki x0 x1 x2 x3 x4
        have hx1 := HX1.out.below HT5.out.bel
        have x0 := cells_of hx1 0 rfl
        have x1 := cells_of hx1 1 rfl
        have x2 := cells_of hx1 2 rfl
        have x3 := cells_of hx1 3 rfl
        have x4 := cells_of hx1 4 rfl
        have hdo := HT5.out.does1 HI.out (by have := HKN.out; omega) (by have := HKN.out; omega) b1 B1 e1 HK1.out HL1.out (by have := HOK.out.s1; unfold maxLen; omega) (by have := HOK.out.s2; omega)
        clear hx1
        have hI6 := step_pre HI.out HOK.out
        generalize hres : stepF M b1 = res at *
        by_cases h0 : res.2 = 0
        · have b0 : (res.2 == 0) = true := beq_iff_eq.2 h0
          clear h0 hres
          go_wp2_with fail
          refine hdo.mono ?_
          rintro e w6 ⟨rfl, hT6⟩
          have HT6 := Aside0.mk hT6
          clear hT6 hdo x0 x1 x2 x3 x4
          go_wp2
          go_ret
          exact ⟨rfl, HB0.out.trans (HT6.out.bel.mono HB0.out.size)⟩
        · have b0 : (res.2 == 0) = false := beq_eq_false_iff_ne.2 h0
          have hM := HFT.out HKP.out (by have := HH.out; omega) h0
          rw [hM] at hdo hI6
          have HI6 := Aside0.mk hI6
          clear h0 hres hM hI6
          go_wp2_with fail
          refine hdo.mono ?_
          rintro e w6 ⟨rfl, hT6⟩
          have HT6 := Aside0.mk hT6
          clear hT6 hdo x0 x1 x2 x3 x4
          have HPn := Aside0.mk (show namesF (tick M) = namesF M from rfl)
          have HPh := Aside0.mk (show held (tick M) = held M from rfl)
          have HPc := Aside0.mk (show namesF (crashF (tick M) b2.f3 b2.f4) = namesF (crashF M b2.f3 b2.f4) from rfl)
          have HPr := Aside0.mk (show ∀ q, readF (crashF (tick M) b2.f3 b2.f4) q = readF (crashF M b2.f3 b2.f4) q from fun _ => rfl)
          have hn1 : (tick M).dir.length ≤ 1048576 := by have h1 := HI6.out.dirL; have h2 := HKN.out; omega
          have hn2 : M.dir.length ≤ 1048576 := by have h1 := HI.out.dirL; have h2 := HKN.out; omega
          generalize tick M = M1 at *
          have hnm := HT6.out.a1.names hn1
          rw [HPn.out] at hnm
          go_wp2_with fail
          refine hnm.mono ?_
          rintro e w7 ⟨⟨A7, c7, rfl, hc7, hk7⟩, -, hb7⟩
          have HT7 := Aside0.mk (HT6.out.below hb7)
          have HK7 := Aside0.mk hk7
          have hnm2 := HT7.out.a2.names hn2
          clear hnm hb7 hk7 hn1 hn2
          go_wp2_with fail
          refine hnm2.mono ?_
          rintro e w8 ⟨⟨A8, c8, rfl, hc8, hk8⟩, -, hb8⟩
          have HT8 := Aside0.mk (HT7.out.below hb8)
          have hsm := same_calls (namesF M) (by have h1 := HI.out.dirL; have h2 := HKN.out; simp [namesF]; omega) A7 A8 c7 c8 w8 (Kd.C_below HK7.out hb8) hc7 hk8 hc8
          clear hnm2 hb8 hk8 hc7 hc8
          go_wp2_with fail
          refine hsm.mono ?_
          rintro e w9 ⟨rfl, hd9⟩
          have HT9 := Aside0.mk (HT8.out.below hd9.below)
          have hhe := HT9.out.a1.held HI6.out (by have := HKN.out; omega) (by have := HKN.out; omega)
          rw [HPh.out] at hhe
          clear hd9 hsm
          go_wp2_with fail
          refine hhe.mono ?_
          rintro e w10 ⟨rfl, -, hb10⟩
          have HT10 := Aside0.mk (HT9.out.below hb10)
          have hhe2 := HT10.out.a2.held HI.out (by have := HKN.out; omega) (by have := HKN.out; omega)
          clear hb10 hhe
          go_wp2_with fail
          refine hhe2.mono ?_
          rintro e w11 ⟨rfl, -, hb11⟩
          have HT11 := Aside0.mk (HT10.out.below hb11)
          clear hb11 hhe2
          have hq : ((held M : Int) == (held M : Int)) = true := by simp
          have hx1 := HX2.out.below HT11.out.bel
          have y3 := cells_of hx1 3 rfl
          have y4 := cells_of hx1 4 rfl
          have hcr := HT11.out.crash1 HI6.out (by have := HKN.out; omega) (by have := HKN.out; omega) b2.f3 B2 e2 b2.f4 HK2.out HL2.out
          clear hx1
          go_wp2_with fail
          refine hcr.mono ?_
          rintro e w12 ⟨rfl, hT12⟩
          have HT12 := Aside0.mk hT12
          clear hT12 hcr y3 y4
          have hx1 := HX2.out.below HT12.out.bel
          have y3 := cells_of hx1 3 rfl
          have y4 := cells_of hx1 4 rfl
          have hcr := HT12.out.crash2 HI.out (by have := HKN.out; omega) (by have := HKN.out; omega) b2.f3 B2 e2 b2.f4 HK2.out HL2.out
          clear hx1
          go_wp2_with fail
          refine hcr.mono ?_
          rintro e w13 ⟨rfl, hT13⟩
          have HT13 := Aside0.mk hT13
          have HJ1 := Aside0.mk (HI6.out.crash b2.f3 b2.f4)
          have HJ2 := Aside0.mk (HI.out.crash b2.f3 b2.f4)
          clear hT13 hcr y3 y4
          generalize crashF M1 b2.f3 b2.f4 = N1 at *
          generalize crashF M b2.f3 b2.f4 = N2 at *
          have hnm := HT13.out.a1.names (by have h1 := HJ1.out.dirL; have h2 := HKN.out; omega)
          rw [HPc.out] at hnm
          go_wp2_with fail
          refine hnm.mono ?_
          rintro e w14 ⟨⟨A9, c9, rfl, hc9, hk9⟩, -, hb14⟩
          have HT14 := Aside0.mk (HT13.out.below hb14)
          have HP := Aside0.mk (names_plain HJ2.out HT14.out.a2.rising (by have := HKN.out; omega))
          obtain ⟨L, hLl⟩ : ∃ L, L = (namesF N2).length := ⟨_, rfl⟩
          have hLd : L = N2.dir.length := by rw [hLl]; simp [namesF]
          have hL0 : L ≤ 300 := by rw [hLd]; have h1 := HJ2.out.dirL; have h2 := HKN.out; omega
          have HLD := Aside0.mk hLd
          rw [← hLl] at hk9 hc9 ⊢
          have HK9 := Aside0.mk hk9; have HC9 := Aside0.mk hc9; have HLL := Aside0.mk hLl; have HL0 := Aside0.mk hL0
          clear hnm hb14 hk9 hc9 hLd hLl hq
          obtain ⟨wo, rfl⟩ : ∃ wo, wo = wr := ⟨_, rfl⟩
          go_wp2_with fail
          go_loopw [10, 12] (fun s i wr => ∃ q : Nat, q ≤ L ∧ i = .int .i64 q ∧ s = .bool true ∧ wr = w14) (fun _ i _ => L - (intOf i).toNat)
          case atStart => exact ⟨0, Nat.zero_le _, rfl, rfl, by first | rfl | trivial⟩
          case round =>
            obtain ⟨q, hq, rfl, rfl, rfl⟩ := hrel
            by_cases hlt3 : q < L
            · have hqd : q < N2.dir.length := by rw [← HLD.out]; exact hlt3
              obtain ⟨p1, p2, p3, p4, p5, p7, p6⟩ := HP.out q hqd
              obtain ⟨ad9, rfl, hcell⟩ := Kd.at_string HK9.out (q : Int) (by omega) (by omega)
              rw [names_at' N2 q hqd, Int.toNat_natCast] at hcell
              have hrd := HT14.out.a1.read (fun i => Nat.le_trans (HJ1.out.fits i) (by have := HKN.out; omega)) (bsS (N2.dir.getD q ([], 0)).1) (by rw [bsS_size]; unfold maxLen; omega)
              have hrd2 := HT14.out.a2.read p1 (bsS (N2.dir.getD q ([], 0)).1) (by rw [bsS_size]; unfold maxLen; omega)
              rw [bsS_list, HPr.out, p4] at hrd
              rw [bsS_list, p4] at hrd2
              generalize bsS (N2.files.getD (N2.dir.getD q ([], 0)).2 ([], 0)).1 = fs at hrd hrd2
              generalize bsS (N2.dir.getD q ([], 0)).1 = nm at hrd hrd2 hcell
              have hltz : (q : Int) < (L : Int) := by omega
              have hne : (fs.toList == fs.toList) = true := by simp
              have HLT3 := Aside0.mk hlt3
              clear p1 p2 p3 p4 p5 p6 p7
              go_wp2_with fail
              refine hrd.mono ?_
              rintro e w15 ⟨rfl, rfl⟩
              go_wp2_with fail
              refine hrd2.mono ?_
              rintro e w16 ⟨rfl, rfl⟩
              go_wp2_with fail
              go_roundw
              case rel => exact ⟨q + 1, by have := HLT3.out; omega, by go_num, by first | rfl | trivial, by first | rfl | trivial⟩
              case measure => simp [intOf]; have := HLT3.out; omega
            · obtain rfl : q = L := by omega
              have hnm := HT14.out.a2.names (by have h1 := HJ2.out.dirL; have h2 := HKN.out; omega)
              go_wp2_with fail
              refine hnm.mono ?_
              rintro e w15 ⟨⟨A15, c15, rfl, hc15, hk15⟩, -, hb15⟩
              have HT15 := Aside0.mk (HT14.out.below hb15)
              have hsm := same_calls (namesF N2) (by rw [← HLL.out]; have := HL0.out; omega) A9 A15 c9 c15 w15 (by rw [← HLL.out]; exact Kd.C_below HK9.out hb15) (by rw [← HLL.out]; exact HC9.out) hk15 hc15
              rw [← HLL.out] at hsm ⊢
              clear hk15 hb15 hnm
              go_wp2_with fail
              refine hsm.mono ?_
              rintro e w16 ⟨rfl, hd16⟩
              have HB16 := Aside0.mk (HT15.out.below hd16.below).bel
              clear hd16 hsm
              go_wp2
              go_ret
              exact ⟨rfl, HB0.out.trans (HB16.out.mono HB0.out.size)⟩
end Go.Proofs.Ytephblclhojffaa.A
