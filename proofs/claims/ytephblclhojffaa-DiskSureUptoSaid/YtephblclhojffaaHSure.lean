/- DiskSure's walk. -/
import Derived.Test.YtephblclhojffaaAx0
import Derived.Test.YtephblclhojffaaHSureP
import Derived.Test.YtephblclhojffaaHShared
namespace Go.Proofs.Ytephblclhojffaa.A
open Go.RowKit Go.Proofs.YtephblclhojffaaW.PrintWords Go.Proofs.YtephblclhojffaaW.PrintLast Go.Proofs.YtephblclhojffaaW.PrintMore
open Go.Maps
set_option linter.unusedVariables false
set_option linter.unusedSimpArgs false

section
variable {w0 w : World} {db : Nat} {M : DM} {n t : Nat}
theorem At.create (h : At true w0.heap.size w0 w db M) (hI : Inv M n t) (hn : n < 1000) (ht : t ≤ 1073741824) (nm : ByteArray) (hs : nm.size ≤ maxLen) :
    Calls Try.prog 26 #[.pointer (some ⟨db, 0, none⟩), .string nm] w fun e w' => e = .returned (.int .i64 (createF M nm.data.toList).2) ∧ At true w0.heap.size w0 w' db (createF M nm.data.toList).1 := by
  obtain ⟨own, dm, sm, chs, fb, sl, xs, hd, ho, hB, hz⟩ := h
  refine (Create.calls hd nm hs (bd_of hd hI (by omega) (by omega))).mono ?_
  rintro e w' ⟨rfl, hW⟩
  exact ⟨rfl, At.went hW ho hB hz⟩
theorem At.append (h : At true w0.heap.size w0 w db M) (hI : Inv M n t) (hn : n < 1000) (ht : t ≤ 1073741824) (nm s : ByteArray) (hs : nm.size ≤ maxLen) (hss : s.size ≤ 1099511627776) :
    Calls Try.prog 29 #[.pointer (some ⟨db, 0, none⟩), .string nm, .string s] w fun e w' => e = .returned (.int .i64 (appendF M nm.data.toList s.data.toList).2) ∧ At true w0.heap.size w0 w' db (appendF M nm.data.toList s.data.toList).1 := by
  obtain ⟨own, dm, sm, chs, fb, sl, xs, hd, ho, hB, hz⟩ := h
  refine (Append.calls hd nm s hs hss (bd_of hd hI (by omega) (by omega))).mono ?_
  rintro e w' ⟨rfl, hW⟩
  exact ⟨rfl, At.went hW ho hB hz⟩
theorem At.sync (h : At true w0.heap.size w0 w db M) (hI : Inv M n t) (hn : n < 1000) (ht : t ≤ 1073741824) (nm : ByteArray) (hs : nm.size ≤ maxLen) :
    Calls Try.prog 30 #[.pointer (some ⟨db, 0, none⟩), .string nm] w fun e w' => e = .returned (.int .i64 (syncF M nm.data.toList).2) ∧ At true w0.heap.size w0 w' db (syncF M nm.data.toList).1 := by
  obtain ⟨own, dm, sm, chs, fb, sl, xs, hd, ho, hB, hz⟩ := h
  have hbd := bd_of hd hI (by omega) (by omega)
  refine (Sync.calls hd nm hs hbd.c0 (by have := hbd.c1; omega) hbd.fits).mono ?_
  rintro e w' ⟨rfl, hW⟩
  exact ⟨rfl, At.went hW ho hB hz⟩
theorem At.space (h : At true w0.heap.size w0 w db M) (x : Int) :
    Calls Try.prog 28 #[.pointer (some ⟨db, 0, none⟩), .int .i64 x] w fun e w' => e = .returned (.tuple #[]) ∧ At true w0.heap.size w0 w' db (spaceF M x) := by
  obtain ⟨own, dm, sm, chs, fb, sl, xs, hd, ho, hB, hz⟩ := h
  refine (Space.calls hd x).mono ?_
  rintro e w' ⟨rfl, hD, hW⟩
  have hodb := hd.odb
  exact ⟨rfl, At.went (Went.same hD rfl (hW.mono fun k _ e => by subst e; exact hodb)) ho hB hz⟩
end
theorem bs_extract (s : ByteArray) (k : Nat) : s.extract 0 k = bsS (s.data.toList.take k) := by
  apply ByteArray.ext
  apply Array.ext'
  simp [bsS]
theorem nil_C (w : World) : Kd.C (Kd.int .i64) w none 0 [] := ⟨rfl, by simp, fun h => by simp at h⟩
set_option maxRecDepth 100000 in
set_option maxHeartbeats 16000000 in
theorem DiskSure.walk (l : List S24) (hops : ∀ o ∈ l, OpOk o) (A : Option Addr) (c : Nat) (ms : List ByteArray) (hms : ∀ s ∈ ms, s.size ≤ 1048576) (B1 : Option Addr) (e1 : Nat) (b2 : S24) (B2 : Option Addr) (e2 : Nat) (w : World) (hC : Kd.C k24 w A l.length l) (hc : l.length ≤ c)
    (hk1 : Kd.C Kd.string w B1 ms.length ms) (hl1 : ms.length ≤ e1) (hok : OpOk b2) (hk2 : (Kd.int .i64).C w B2 b2.f4.length b2.f4) (hl2 : b2.f4.length ≤ e2) :
    Calls Try.prog 5 #[.slice A l.length c, .slice B1 ms.length e1, .agg #[.int .i64 b2.f0, .string b2.f1, .string b2.f2, .int .i64 b2.f3, .slice B2 b2.f4.length e2]] w fun e w' => e = .returned (.bool true) ∧ Below w.heap.size w w' := by
  have hu24 := Try.underlying24
  have HOK := Aside0.mk hok
  have hC1 := C_take hC 300
  have HOP : Aside0 (∀ (k : Nat) (hk : k < (earlyF l).length), OpOk (earlyF l)[k]) := ⟨fun k hk => hops _ (List.mem_of_mem_take (List.getElem_mem hk))⟩
  have hL := earlyF_len l
  have hL3 : (earlyF l).length ≤ 300 := by omega
  have hear := fun W => early.calls W A c l hc
  change Kd.C k24 w A (earlyF l).length (earlyF l) at hC1
  clear hC hops hL hc hok
  generalize hE : earlyF l = E at *
  have HL3 := Aside0.mk hL3
  clear hE hL3
  obtain ⟨x2, hx2⟩ : ∃ x, x = Obj.cells #[.int .i64 b2.f0, .string b2.f1, .string b2.f2, .int .i64 b2.f3, .slice B2 b2.f4.length e2] 24 (0, 0) := ⟨_, rfl⟩
  have hb1 : Below w.heap.size w (w.alloc x2) := (Below.refl w.heap.size w).alloc (Nat.le_refl _) x2
  have HB0 := Aside0.mk hb1
  have HC := Aside0.mk (Kd.C_below hC1 hb1)
  have HK1 := Aside0.mk (Kd.C_below hk1 hb1)
  have HK2 := Aside0.mk (Kd.C_below hk2 hb1)
  have HX2 : Aside0 (BoxAt (w.alloc x2) w.heap.size b2 B2 e2) := ⟨by unfold BoxAt; rw [heap_alloc, hx2]⟩
  have HL1 := Aside0.mk hl1; have HL2 := Aside0.mk hl2; have HMS := Aside0.mk hms
  clear hb1 hC1 hk1 hk2 hl1 hl2 hms
  subst hx2
  go_enter Try.func5, Try.ntmps5
  go_wp2_with fail
  generalize w.alloc (Obj.cells #[.int .i64 b2.f0, .string b2.f1, .string b2.f2, .int .i64 b2.f3, .slice B2 b2.f4.length e2] 24 (0, 0)) = w0 at *
  refine (lives.calls _).mono ?_
  rintro e w1 ⟨rfl, hb1⟩
  have HB1 := Aside0.mk hb1
  clear hb1
  go_wp2_with fail
  refine (hear _).mono ?_
  rintro e w2 ⟨rfl, rfl⟩
  go_wp2_with fail
  refine (at_new w0 w2 HB1.out 1073741824).mono ?_
  rintro e w3 ⟨db, rfl, hA⟩
  have hR : Aside0 (StepR w0 w3 db 0) := ⟨⟨newF 1073741824, hA, (inv_new 1073741824 (by omega)).mono (Nat.le_refl _) (Nat.zero_le _)⟩⟩
  clear hA hear
  go_wp2_with fail
  go_loopw [8] (fun i wr => ∃ k : Nat, k ≤ E.length ∧ i = .int .i64 k ∧ Aside0 (StepR w0 wr db k)) (fun i _ => E.length - (intOf i).toNat)
  case atStart => exact ⟨0, Nat.zero_le _, rfl, hR⟩
  case round =>
    clear hR
    obtain ⟨k, hk, rfl, HR⟩ := hrel
    by_cases hlt : k < E.length
    · obtain ⟨M, hA, hI⟩ := HR.out
      obtain ⟨ad, A4, c4, rfl, g0, g1, g2, g3, g4, hl4, hk4⟩ := op_at HC.out k hlt
      have hB := hA.bel
      have x0 := pw_cell_below hB g0
      have x1 := pw_cell_below hB g1
      have x2 := pw_cell_below hB g2
      have x3 := pw_cell_below hB g3
      have x4 := pw_cell_below hB g4
      have hok := HOP.out k hlt
      have hL3 := HL3.out
      have hdo := hA.does hI (by omega) (by omega) E[k] A4 c4 hk4 hl4 (by have := hok.s1; unfold maxLen; omega) (by have := hok.s2; omega)
      have hI' := step_pre hI hok
      have HI' := Aside0.mk hI'
      clear hA hI hI' hB hok g0 g1 g2 g3 g4 hl4 hk4 HR
      generalize stepF M E[k] = res at hdo HI'
      generalize hoo : E[k] = o at *
      clear hoo
      go_wp2_with fail
      refine hdo.mono ?_
      rintro e w5 ⟨rfl, hA5⟩
      have HN : Aside0 (StepR w0 w5 db (k + 1)) := ⟨⟨_, hA5, HI'.out⟩⟩
      clear hA5 hdo x0 x1 x2 x3 x4
      go_wp2_with fail
      go_roundw
      case rel => exact ⟨k + 1, by omega, by go_num, HN⟩
      case measure => simp [intOf]; omega
    · obtain ⟨M, hA, hI⟩ := HR.out
      have hn : ¬ k < E.length := hlt
      have hk3 : k ≤ 300 := by have := HL3.out; omega
      have HKN := Aside0.mk hk3
      have hcr := hA.crash hI (by omega) (by omega) 0 none 0 [] (nil_C _) (by simp)
      have hI5 := hI.crash 0 []
      have hcases := su_create hI5 rfl rfl (by omega)
      generalize crashF M 0 [] = M5 at *
      have HI5 := Aside0.mk hI5
      clear hA hI HR hI5
      go_wp2_with fail
      refine hcr.mono ?_
      rintro e w5 ⟨rfl, hA5⟩
      have hcre := hA5.create HI5.out (by omega) (by omega) ⟨#[115, 117, 114, 101]⟩ (by unfold maxLen; decide)
      rw [show (⟨#[115, 117, 114, 101]⟩ : ByteArray).data.toList = sureB from rfl] at hcre
      generalize createF M5 sureB = rc at *
      clear hA5 hcr hk3
      rcases hcases with ⟨h0, hSu, hI6⟩ | ⟨h0, hI6, f, hf⟩
      · have HSU := Aside0.mk hSu; have HI6 := Aside0.mk hI6
        clear hSu hI6
        rw [h0] at hcre
        clear h0
        go_wp2_with fail
        refine hcre.mono ?_
        rintro e w6 ⟨rfl, hA6⟩
        have hsp := hA6.space 1099511627776
        clear hA6 hcre
        go_wp2_with fail
        refine hsp.mono ?_
        rintro e w7 ⟨rfl, hA7⟩
        generalize spaceF rc.1 1099511627776 = M7 at *
        have hsa := HOK.out.s1
        have hkn := HKN.out
        obtain ⟨a0, a1, -, -, -⟩ := HSU.out.append (by omega) b2.f1.data.toList (by rw [Array.length_toList]; exact hsa)
        have hap := hA7.append HSU.out.inv (by omega) (by omega) ⟨#[115, 117, 114, 101]⟩ b2.f1 (by unfold maxLen; decide) (by omega)
        rw [show (⟨#[115, 117, 114, 101]⟩ : ByteArray).data.toList = sureB from rfl, a0] at hap
        rw [List.nil_append] at a1
        generalize (appendF M7 sureB b2.f1.data.toList).1 = M8 at *
        have S8 := Aside0.mk a1
        have hx1 := HX2.out.below hA7.bel
        have y1 := cells_of hx1 1 rfl
        clear hA7 hsp a0 a1 hsa hkn hx1
        go_wp2_with fail
        refine hap.mono ?_
        rintro e w8 ⟨rfl, hA8⟩
        have hkn := HKN.out
        obtain ⟨a0, a1⟩ := S8.out.sync (by omega)
        have hsy := hA8.sync S8.out.inv (by omega) (by omega) ⟨#[115, 117, 114, 101]⟩ (by unfold maxLen; decide)
        rw [show (⟨#[115, 117, 114, 101]⟩ : ByteArray).data.toList = sureB from rfl, a0] at hsy
        generalize (syncF M8 sureB).1 = M9 at *
        have S9 := Aside0.mk a1
        clear hA8 hap a0 a1 y1 hkn
        go_wp2_with fail
        refine hsy.mono ?_
        rintro e w9 ⟨rfl, hA9⟩
        have hkn := HKN.out
        obtain ⟨a0, a1, a2, a3⟩ := S9.out.syncDir (by omega)
        have hsd := hA9.syncDir S9.out.inv (by omega)
        rw [a0] at hsd
        generalize (syncDirF M9).1 = M10 at *
        have HR0 : Aside0 (Su M10 (k + 4) b2.f1.data.toList b2.f1.size ∧ M10.sdir = M10.dir ∧ M10.chg = []) := ⟨by have := a1; rw [Array.length_toList] at this; exact this, a2, a3⟩
        clear hA9 hsy a0 a1 a2 a3 hkn
        go_wp2_with fail
        refine hsd.mono ?_
        rintro e w10 ⟨rfl, hA10⟩
        have HR1 : Aside0 (At true w0.heap.size w0 w10 db M10) := ⟨hA10⟩
        have hx1 := HX2.out.below hA10.bel
        have y1 := cells_of hx1 1 rfl
        clear hsd hA10 hx1
        obtain ⟨wo, rfl⟩ : ∃ wo, wo = wr := ⟨_, rfl⟩
        go_wp2_with fail
        go_loopw [9, 10] (fun v i wr => ∃ (j : Nat) (all : ByteArray) (M : DM), j ≤ ms.length ∧ j ≤ 50 ∧ v = .string all ∧ i = .int .i64 j ∧ Aside0 (all.size ≤ (j + 1) * 1048576) ∧ Aside0 (At true w0.heap.size w0 wr db M) ∧ Aside0 (Su M (k + 4 + j) all.data.toList b2.f1.size ∧ M.sdir = M.dir ∧ M.chg = [])) (fun _ i _ => ms.length - (intOf i).toNat)
        case atStart => exact ⟨0, b2.f1, M10, Nat.zero_le _, by omega, rfl, rfl, ⟨by have := HOK.out.s1; omega⟩, HR1, HR0⟩
        case round =>
          clear HR0 HR1 y1
          obtain ⟨j, all, M, hj, hj50, rfl, rfl, HSZ, HA, HS⟩ := hrel
          by_cases hlt2 : j < ms.length
          · have hltz : (j : Int) < (ms.length : Int) := by omega
            by_cases h50 : j < 50
            · have h50z : (j : Int) < 50 := by omega
              obtain ⟨ad, rfl, hcell0⟩ := Kd.at_string HK1.out (j : Int) (by omega) hltz
              have hrdo : rdOf ByteArray.empty ms (j : Int) = ms[j] := by simp [rdOf, hlt2]
              rw [hrdo, Int.toNat_natCast] at hcell0
              have hcell := pw_cell_below HA.out.bel hcell0
              have HC0 := Aside0.mk hcell0
              clear hcell0
              have hsz := HMS.out ms[j] (List.getElem_mem hlt2)
              generalize ms[j] = s at *
              have hkn := HKN.out
              obtain ⟨hS, hs1, hs2⟩ := HS.out
              obtain ⟨a0, a1, a2, a3, a4⟩ := hS.append (by omega) s.data.toList (by rw [Array.length_toList]; exact hsz)
              have hap := HA.out.append hS.inv (by omega) (by omega) ⟨#[115, 117, 114, 101]⟩ s (by unfold maxLen; decide) (by omega)
              rw [show (⟨#[115, 117, 114, 101]⟩ : ByteArray).data.toList = sureB from rfl, a0] at hap
              rw [hs1, hs2] at *
              generalize (appendF M sureB s.data.toList).1 = M' at *
              have HN : Aside0 (Su M' (k + 4 + (j + 1)) (all ++ s).data.toList b2.f1.size ∧ M'.sdir = M'.dir ∧ M'.chg = []) := ⟨by have h := a1; simpa [Nat.add_assoc] using h, by rw [a2, a4], a3⟩
              have HSZ' : Aside0 ((all ++ s).size ≤ (j + 1 + 1) * 1048576) := ⟨by have h := HSZ.out; rw [ByteArray.size_append]; omega⟩
              have HJ := Aside0.mk hlt2; have H50 := Aside0.mk h50
              clear hsz hS hs1 hs2 a0 a1 a2 a3 a4 hrdo hkn
              go_wp2_with fail
              refine hap.mono ?_
              rintro e w11 ⟨rfl, hA11⟩
              have HA11 := Aside0.mk hA11
              have hcell' := pw_cell_below HA11.out.bel HC0.out
              have hcat : ¬ 9223372036854775807 < all.size + s.size := by have := HSZ'.out; rw [ByteArray.size_append] at this; have := HJ.out; have := H50.out; omega
              clear hap hA11 hcell
              go_wp2_with fail
              go_roundw
              case rel => exact ⟨j + 1, all ++ s, M', by have := HJ.out; omega, by have := H50.out; omega, rfl, by go_num, HSZ', HA11, HN⟩
              case measure => simp [intOf]; have := HJ.out; omega
            · have h50z : ¬ (j : Int) < 50 := by omega
              have hkn := HKN.out
              obtain ⟨hS, hs1, hs2⟩ := HS.out
              obtain ⟨m, hrd0, hsu⟩ := hS.crash hs1 hs2 b2.f3 b2.f4
              have hcr := HA.out.crash hS.inv (by omega) (by omega) b2.f3 B2 e2 b2.f4 HK2.out HL2.out
              have hIc := hS.inv.crash b2.f3 b2.f4
              have hfits : Fits (crashF M b2.f3 b2.f4) 1099511627776 := fun i => Nat.le_trans (hIc.fits i) (by omega)
              generalize crashF M b2.f3 b2.f4 = M' at *
              have HFT := Aside0.mk hfits; have HRD := Aside0.mk hrd0
              have hx1 := HX2.out.below HA.out.bel
              have y3 := cells_of hx1 3 rfl
              have y4 := cells_of hx1 4 rfl
              obtain ⟨K, hK⟩ : ∃ K, K = (all.data.toList.take m).length := ⟨_, rfl⟩
              have hKl : K ≤ all.size := by rw [hK, List.length_take, Array.length_toList]; exact Nat.min_le_right _ _
              have HKE : Aside0 (all.data.toList.take m = all.data.toList.take K) := ⟨by rw [hK, List.length_take]; by_cases h : m ≤ all.data.toList.length; rw [Nat.min_eq_left h]; rw [Nat.min_eq_right (by omega), List.take_of_length_le (by omega), List.take_length]⟩
              have HKS : Aside0 (b2.f1.size ≤ K) := ⟨by rw [hK]; exact hsu⟩
              have HKL := Aside0.mk hKl
              clear hkn hS hs1 hs2 hIc hfits hx1 hrd0 hsu hK hKl
              go_wp2_with fail
              refine hcr.mono ?_
              rintro e w11 ⟨rfl, hA11⟩
              have HA11 := Aside0.mk hA11
              have hx1 := HX2.out.below hA11.bel
              have y1 := cells_of hx1 1 rfl
              have hrd := hA11.read HFT.out ⟨#[115, 117, 114, 101]⟩ (by unfold maxLen; decide)
              rw [show (⟨#[115, 117, 114, 101]⟩ : ByteArray).data.toList = sureB from rfl, HRD.out] at hrd
              simp only at hrd
              rw [HKE.out] at hrd
              have hszs : (bsS (all.data.toList.take K)).size = K := by rw [bsS_size, List.length_take, Array.length_toList]; exact Nat.min_eq_left HKL.out
              have hext : (all.extract 0 K) = bsS (all.data.toList.take K) := bs_extract all K
              generalize bsS (all.data.toList.take K) = s at *
              subst hszs
              have hg1 : b2.f1.size ≤ s.size := HKS.out
              have hg2 : s.size ≤ all.size := HKL.out
              have hB11 := Aside0.mk hA11.bel
              clear hcr hA11 hx1 y3 y4
              go_wp2_with fail
              refine hrd.mono ?_
              rintro e w12 ⟨rfl, rfl⟩
              go_wp2
              go_ret
              exact ⟨rfl, HB0.out.trans (hB11.out.mono HB0.out.size)⟩
          · have hltz : ¬ (j : Int) < (ms.length : Int) := by omega
            have hkn := HKN.out
            obtain ⟨hS, hs1, hs2⟩ := HS.out
            obtain ⟨m, hrd0, hsu⟩ := hS.crash hs1 hs2 b2.f3 b2.f4
            have hcr := HA.out.crash hS.inv (by omega) (by omega) b2.f3 B2 e2 b2.f4 HK2.out HL2.out
            have hIc := hS.inv.crash b2.f3 b2.f4
            have hfits : Fits (crashF M b2.f3 b2.f4) 1099511627776 := fun i => Nat.le_trans (hIc.fits i) (by omega)
            generalize crashF M b2.f3 b2.f4 = M' at *
            have HFT := Aside0.mk hfits; have HRD := Aside0.mk hrd0
            have hx1 := HX2.out.below HA.out.bel
            have y3 := cells_of hx1 3 rfl
            have y4 := cells_of hx1 4 rfl
            obtain ⟨K, hK⟩ : ∃ K, K = (all.data.toList.take m).length := ⟨_, rfl⟩
            have hKl : K ≤ all.size := by rw [hK, List.length_take, Array.length_toList]; exact Nat.min_le_right _ _
            have HKE : Aside0 (all.data.toList.take m = all.data.toList.take K) := ⟨by rw [hK, List.length_take]; by_cases h : m ≤ all.data.toList.length; rw [Nat.min_eq_left h]; rw [Nat.min_eq_right (by omega), List.take_of_length_le (by omega), List.take_length]⟩
            have HKS : Aside0 (b2.f1.size ≤ K) := ⟨by rw [hK]; exact hsu⟩
            have HKL := Aside0.mk hKl
            clear hkn hS hs1 hs2 hIc hfits hx1 hrd0 hsu hK hKl
            go_wp2_with fail
            refine hcr.mono ?_
            rintro e w11 ⟨rfl, hA11⟩
            have HA11 := Aside0.mk hA11
            have hx1 := HX2.out.below hA11.bel
            have y1 := cells_of hx1 1 rfl
            have hrd := hA11.read HFT.out ⟨#[115, 117, 114, 101]⟩ (by unfold maxLen; decide)
            rw [show (⟨#[115, 117, 114, 101]⟩ : ByteArray).data.toList = sureB from rfl, HRD.out] at hrd
            simp only at hrd
            rw [HKE.out] at hrd
            have hszs : (bsS (all.data.toList.take K)).size = K := by rw [bsS_size, List.length_take, Array.length_toList]; exact Nat.min_eq_left HKL.out
            have hext : (all.extract 0 K) = bsS (all.data.toList.take K) := bs_extract all K
            generalize bsS (all.data.toList.take K) = s at *
            subst hszs
            have hg1 : b2.f1.size ≤ s.size := HKS.out
            have hg2 : s.size ≤ all.size := HKL.out
            have hB11 := Aside0.mk hA11.bel
            clear hcr hA11 hx1 y3 y4
            go_wp2_with fail
            refine hrd.mono ?_
            rintro e w12 ⟨rfl, rfl⟩
            go_wp2
            go_ret
            exact ⟨rfl, HB0.out.trans (hB11.out.mono HB0.out.size)⟩
      · have HI6 := Aside0.mk hI6
        have HF := Aside0.mk hf
        clear hI6 hf
        rw [h0] at hcre
        clear h0
        go_wp2_with fail
        refine hcre.mono ?_
        rintro e w6 ⟨rfl, hA6⟩
        have hnm := hA6.names (by have h1 := HI6.out.dirL; have h2 := HKN.out; omega)
        clear hA6 hcre
        go_wp2_with fail
        refine hnm.mono ?_
        rintro e w7 ⟨⟨A7, c7, rfl, hc7, hk7⟩, hA7, hb7⟩
        have HB7 := Aside0.mk hA7.bel
        have hhas := has_calls (namesF rc.1) ⟨#[115, 117, 114, 101]⟩ (by have h1 := HI6.out.dirL; have h2 := HKN.out; simp [namesF]; omega) (List.mem_map.2 ⟨_, HF.out, rfl⟩) A7 c7 w7 hk7 hc7
        clear hk7 hc7 hA7 hb7 hnm
        go_wp2_with fail
        refine hhas.mono ?_
        rintro e w8 ⟨rfl, hd8⟩
        have HD8 := Aside0.mk hd8.below
        clear hd8 hhas
        go_wp2
        go_ret
        exact ⟨rfl, (HB0.out.trans (HB7.out.mono HB0.out.size)).trans (HD8.out.mono (Nat.le_trans HB0.out.size HB7.out.size))⟩
end Go.Proofs.Ytephblclhojffaa.A
