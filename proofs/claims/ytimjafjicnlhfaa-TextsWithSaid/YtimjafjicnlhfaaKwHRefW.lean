/- The reference's With: texts as bytes, by a codec. -/
import Derived.Test.YtimjafjicnlhfaaKwAx0
import Derived.Test.YtimjafjicnlhfaaKwAx7
import Derived.Test.YtimjafjicnlhfaaKwAx8
import Derived.Test.YtimjafjicnlhfaaKwHDict
import Derived.Test.YtimjafjicnlhfaaKwHWith
import Derived.Test.YtimjafjicnlhfaaKwHRText
namespace Go.Proofs.Ytimjafjicnlhfaa.A
open Go.RowKit Go.Proofs.YtimjafjicnlhfaaW.PrintWords Go.Proofs.YtimjafjicnlhfaaW.PrintLast Go.Proofs.YtimjafjicnlhfaaW.PrintMore
set_option linter.unusedVariables false
set_option linter.unusedSimpArgs false
def tithebarnref05_With.f (l : List ByteArray) (c : Int) : Option (ByteArray × Int) := some (withP l c)
theorem lt_pow_of {y : Int} {w : Nat} (h0 : 0 ≤ y) (h : y.toNat < 2 ^ w) : y < 2 ^ w := by
  have h2 : ((y.toNat : Nat) : Int) < ((2 ^ w : Nat) : Int) := Int.ofNat_lt.2 h
  rw [Int.toNat_of_nonneg h0] at h2
  simpa using h2
theorem putB_snoc (l : List ByteArray) (x : ByteArray) : putB (l ++ [x]) = putB l ++ textB x := by
  unfold putB
  rw [List.flatMap_append]
  simp
theorem textR_f (x : ByteArray) (h : x.size ≤ 64) : tithebarnref01_Text.f x = some (strOfNums (textB x)) := by
  unfold tithebarnref01_Text.f
  rw [if_pos (by omega)]
theorem uintR_f (n : Nat) (h : n ≤ 65536) : tithebarnref01_Uint.f (n : Int) = some (strOfNums (uintB n)) := by
  unfold tithebarnref01_Uint.f
  rw [if_pos (by omega)]
theorem longP_true {l : List ByteArray} (h : longP l = true) : 65536 < l.length ∨ ∃ s ∈ l, 64 < s.size := by
  unfold longP at h
  rw [Bool.or_eq_true] at h
  rcases h with h | h
  · exact .inl (by have := of_decide_eq_true h; omega)
  · obtain ⟨s, hs, hx⟩ := List.any_eq_true.1 h
    unfold longT at hx
    simp at hx
    exact .inr ⟨s, hs, hx⟩
theorem add_ok {a b : Nat} (h : a + b ≤ 9223372036854775807) : ((a + b ≤ 9223372036854775807) = True) ∧ decide (a + b ≤ 9223372036854775807) = true ∧ ((9223372036854775807 < a + b) = False) := ⟨eq_true h, decide_eq_true h, eq_false (by omega)⟩
theorem box_string (c : Int) (W0 W : World) (hs : W0.heap.size = W.heap.size) (hc : c = 0 ∨ c = 1 := by decide) : (convert 36 9 (.slice (some ⟨W.heap.size, 0, none⟩) 1 1)).run Try.prog (W0.alloc (.cells #[.int .u8 (IntKind.u8.wrap c)] 5)) = .ok (.string (strOfNums [c])) (W0.alloc (.cells #[.int .u8 (IntKind.u8.wrap c)] 5)) := by
  rw [show IntKind.u8.wrap c = c from by rcases hc with rfl | rfl <;> rfl, ← hs]
  exact own_string Try.underlying36 Try.underlying5 Try.underlying9 (Kd.own_of_R (R_lit1 W0 _ (Nat.le_refl _) c))
theorem box_string2 (c : Int) (W w2 : World) (hb : Below (W.alloc (.cells #[.int .u8 (IntKind.u8.wrap c)] 5)).heap.size (W.alloc (.cells #[.int .u8 (IntKind.u8.wrap c)] 5)) w2) (hc : c = 0 ∨ c = 1 := by decide) : (convert 36 9 (.slice (some ⟨W.heap.size, 0, none⟩) 1 1)).run Try.prog w2 = .ok (.string (strOfNums [c])) w2 := by
  rw [show IntKind.u8.wrap c = c from by rcases hc with rfl | rfl <;> rfl] at hb
  exact own_string Try.underlying36 Try.underlying5 Try.underlying9 (Kd.own_of_R (Kd.R_below (R_lit1 W _ (Nat.le_refl _) c) hb))
set_option maxHeartbeats 16000000 in
set_option maxRecDepth 100000 in
theorem tithebarnref05_With.calls (A0 : Option Addr) (c0 : Nat) (l0 : List ByteArray) (a1 : Int) (r1 : ByteArray) (r2 : Int) (w : World) (hr0 : Kd.C Kd.string w A0 l0.length l0) (hc0 : l0.length ≤ c0) (h : tithebarnref05_With.f l0 a1 = some (r1, r2)) :
    Calls Try.prog 11 #[.slice A0 l0.length c0, .int .i64 a1] w fun e w' => e = .returned (.tuple #[.string r1, .int .i64 r2]) ∧ Below w.heap.size w w' := by
  replace h : withP l0 a1 = (r1, r2) := Option.some.inj h
  unfold withP at h
  have HL0 := Aside0.mk (Below.refl w.heap.size w)
  by_cases hcd : a1 < 0 ∨ 1 < a1
  · rw [if_pos hcd] at h
    injection h with e1 e2
    subst e1; subst e2
    clear hr0
    have g1 : (a1 == 0) = false := beq_eq_false_iff_ne.mpr (by omega)
    have g2 : (a1 != 0) = true := bne_iff_ne.mpr (by omega)
    have g3 : (a1 == 1) = false := beq_eq_false_iff_ne.mpr (by omega)
    have g4 : (a1 != 1) = true := bne_iff_ne.mpr (by omega)
    go_enter Try.func11, Try.ntmps11
    go_wp2_with fail
    go_ret2
    exact ⟨rfl, HL0.out⟩
  rw [if_neg hcd] at h
  have HR := Aside0.mk hr0
  have hbig := hr0.2.1
  clear hr0
  have hc01 : a1 = 0 ∨ a1 = 1 := by omega
  clear hcd
  by_cases hlg : longP l0 = true
  · rw [if_pos hlg] at h
    injection h with e1 e2
    subst e1; subst e2
    by_cases hn : 65536 < l0.length
    · clear hlg
      have hd : decide (65536 < l0.length) = true := decide_eq_true hn
      have hdz : decide ((65536 : Int) < (l0.length : Int)) = true := decide_eq_true (by omega)
      rcases hc01 with rfl | rfl
      all_goals (
        go_enter Try.func11, Try.ntmps11
        go_wp2_with fail
        go_ret2
        exact ⟨rfl, HL0.out⟩)
    · have hd : decide (65536 < l0.length) = false := decide_eq_false hn
      have hdz : decide ((65536 : Int) < (l0.length : Int)) = false := decide_eq_false (by omega)
      have HEX : Aside0 (∃ s ∈ l0, 64 < s.size) := ⟨(longP_true hlg).resolve_left hn⟩
      clear hlg
      rcases hc01 with rfl | rfl
      all_goals (
        go_enter Try.func11, Try.ntmps11
        go_wp2_with fail
        go_loopg [6] l0.length (fun gg s6 wr => ∃ i : Nat, i ≤ l0.length ∧ l0.length - i ≤ gg ∧ s6 = .int .i64 i ∧ Aside0 (Below w.heap.size w wr) ∧ Aside0 (∀ s ∈ l0.take i, s.size ≤ 64))
        case atStart => exact ⟨0, by omega, by omega, rfl, HL0, ⟨fun s hs => by simp at hs⟩⟩
        case round =>
          clear HL0
          obtain ⟨i, hi, hgg, rfl, HLw, HSM⟩ := hrel
          by_cases hlt : i < l0.length
          · have hltn : decide (i < l0.length) = true := decide_eq_true hlt
            have hltz : decide ((i : Int) < (l0.length : Int)) = true := decide_eq_true (by omega)
            have hiT : ((i : Int) < (l0.length : Int)) = True := eq_true (by omega)
            have hi0 : ((0 : Int) ≤ (i : Int)) = True := eq_true (by omega)
            have hpi : IntKind.i64.wrap ((i : Int) + 1) = (i : Int) + 1 := IntWalk.i64_in _ (by omega)
            obtain ⟨ad, e, hx⟩ := Kd.at_string HR.out (i : Int) (by omega) (by omega)
            cases e
            replace hx := (HLw.out.cell (World.block_lt_of_cell? w _ hx)).trans hx
            rw [Int.toNat_natCast] at hx
            have hxe : rdOf ByteArray.empty l0 (i : Int) = l0[i] := by simp [rdOf, hlt]
            have htk : l0.take (i + 1) = l0.take i ++ [rdOf ByteArray.empty l0 (i : Int)] := by rw [List.take_add_one, List.getElem?_eq_getElem hlt, hxe]; rfl
            have HTK := Aside0.mk htk; have HIJ := Aside0.mk (And.intro hi (And.intro hgg hlt))
            generalize rdOf ByteArray.empty l0 (i : Int) = x at *
            clear htk hi hgg hlt hxe
            by_cases hsz : 64 < x.size
            · have hs1 : decide (64 < x.size) = true := decide_eq_true hsz
              have hs2 : decide ((64 : Int) < (x.size : Int)) = true := decide_eq_true (by omega)
              go_wp2_with fail
              go_ret2
              exact ⟨rfl, HLw.out⟩
            · have hs1 : decide (64 < x.size) = false := decide_eq_false hsz
              have hs2 : decide ((64 : Int) < (x.size : Int)) = false := decide_eq_false (by omega)
              have HSZ := Aside0.mk hsz
              go_wp2_with fail
              go_roundg (l0.length - (i + 1))
              case measure => have := HIJ.out; omega
              case rel =>
                refine ⟨i + 1, by have := HIJ.out; omega, by have := HIJ.out; omega, by push_cast; rfl, HLw, ⟨fun s hs => ?_⟩⟩
                rw [HTK.out, List.mem_append, List.mem_singleton] at hs
                rcases hs with hs | rfl
                · exact HSM.out s hs
                · have := HSZ.out; omega
          · exfalso
            obtain ⟨s, hs, hs64⟩ := HEX.out
            have := HSM.out s (by rw [List.take_of_length_le (by omega)]; exact hs)
            omega)
  · rw [if_neg hlg] at h
    have hlf : longP l0 = false := by simpa using hlg
    obtain ⟨hn, hs64⟩ := longP_false hlf
    have HS := Aside0.mk hs64; have HN := Aside0.mk hn
    have hd : decide (65536 < l0.length) = false := decide_eq_false (by omega)
    have hdz : decide ((65536 : Int) < (l0.length : Int)) = false := decide_eq_false (by omega)
    have hwl : IntKind.u64.wrap (l0.length : Int) = (l0.length : Int) := IntWalk.u64_in _ (by omega)
    have huc := fun W => tithebarnref01_Uint.calls (l0.length : Int) _ W (uintR_f l0.length hn)
    have hul : (strOfNums (uintB (l0.length : Int))).size ≤ 9 := by rw [strOfNums_size]; exact uintB_length _
    obtain ⟨u, hu⟩ : ∃ u, u = strOfNums (uintB (l0.length : Int)) := ⟨_, rfl⟩
    rw [← hu] at huc hul
    have HU := Aside0.mk huc; have HUE := Aside0.mk hu; have HUL := Aside0.mk hul
    clear huc hul hu hlg hlf hs64
    rcases hc01 with rfl | rfl
    · rw [if_pos (rfl : (0 : Int) = 0)] at h
      injection h with e1 e2
      subst e2
      have HR1 := Aside0.mk e1
      clear e1
      go_enter Try.func11, Try.ntmps11
      go_wp2_with fail
      go_loopg [6] l0.length (fun gg s6 wr => ∃ i : Nat, i ≤ l0.length ∧ l0.length - i ≤ gg ∧ s6 = .int .i64 i ∧ Aside0 (Below w.heap.size w wr))
      case atStart => exact ⟨0, by omega, by omega, rfl, HL0⟩
      case round =>
        clear HL0
        obtain ⟨i, hi, hgg, rfl, HLw⟩ := hrel
        by_cases hlt : i < l0.length
        · have hltn : decide (i < l0.length) = true := decide_eq_true hlt
          have hltz : decide ((i : Int) < (l0.length : Int)) = true := decide_eq_true (by omega)
          have hiT : ((i : Int) < (l0.length : Int)) = True := eq_true (by omega)
          have hi0 : ((0 : Int) ≤ (i : Int)) = True := eq_true (by omega)
          have hpi : IntKind.i64.wrap ((i : Int) + 1) = (i : Int) + 1 := IntWalk.i64_in _ (by omega)
          obtain ⟨ad, e, hx⟩ := Kd.at_string HR.out (i : Int) (by omega) (by omega)
          cases e
          replace hx := (HLw.out.cell (World.block_lt_of_cell? w _ hx)).trans hx
          rw [Int.toNat_natCast] at hx
          have hxe : rdOf ByteArray.empty l0 (i : Int) = l0[i] := by simp [rdOf, hlt]
          have hsz : (rdOf ByteArray.empty l0 (i : Int)).size ≤ 64 := by rw [hxe]; exact HS.out _ (List.getElem_mem hlt)
          have HIJ := Aside0.mk (And.intro hi (And.intro hgg hlt))
          generalize rdOf ByteArray.empty l0 (i : Int) = x at *
          clear hi hgg hlt hxe
          have hs1 : decide (64 < x.size) = false := decide_eq_false (by omega)
          have hs2 : decide ((64 : Int) < (x.size : Int)) = false := decide_eq_false (by omega)
          clear hsz
          go_wp2_with fail
          go_roundg (l0.length - (i + 1))
          case measure => have := HIJ.out; omega
          case rel => exact ⟨i + 1, by have := HIJ.out; omega, by have := HIJ.out; omega, by push_cast; rfl, HLw⟩
        · obtain rfl : i = l0.length := by omega
          have hltn : decide (l0.length < l0.length) = false := decide_eq_false (by omega)
          have hltz : decide ((l0.length : Int) < (l0.length : Int)) = false := decide_eq_false (by omega)
          go_upto_region 10 with fail
          go_cut [7] (fun s7 wc => s7 = .string (strOfNums [(0 : Int)] ++ u) ∧ Aside0 (Below w.heap.size w wc))
          case first =>
            have hk1 : (strOfNums [(0 : Int)]).size = 1 := by rw [strOfNums_size]; rfl
            obtain ⟨g1, g2, g3⟩ := add_ok (a := (strOfNums [(0 : Int)]).size) (b := u.size) (by have := HUL.out; omega)
            have HZ := Aside0.mk (Below.refl wr.heap.size wr)
            have HB2 := HZ
            have hcA := box_string2 0 wr ((wr.alloc (.cells #[.int .u8 (IntKind.u8.wrap 0)] 5)).drew) (below_drew (Below.refl _ _))
            clear hk1
            go_wp2_with fail
            go_region_with
              (first
                | (go_at_call 26; refine (HU.out _).mono ?_; rintro e w2 ⟨rfl, hb'⟩; (first | (have hcD := box_string2 0 wr w2 ((below_drew (Below.refl _ _)).trans (hb'.mono (Nat.le_refl _)))) | (have hcD := box_string 0 w2 w2 rfl)); (have HB3 := Aside0.mk (Below.trans (by first | exact (below_drew HZ.out) | exact (below_drew HZ.out).alloc (below_drew HZ.out).size _) (hb'.mono (by first | exact (below_drew HZ.out).size | exact ((below_drew HZ.out).alloc (below_drew HZ.out).size _).size)))); clear HB2; (have HB2 := HB3); clear HB3 hb'))
            all_goals (
              go_wp2_with fail
              go_meet
              exact ⟨rfl, ⟨HLw.out.trans (Below.mono (by first | exact HB2.out | exact HB2.out.alloc HB2.out.size _) HLw.out.size)⟩⟩)
          case rest =>
            obtain ⟨rfl, HB3⟩ := hcut
            clear HLw
            have hS0 : strOfNums [(0 : Int)] ++ u = strOfNums ([0] ++ uintB l0.length) := by rw [strOfNums_append, HUE.out]
            have hS1 : (strOfNums [(0 : Int)] ++ u).size ≤ 30 := by rw [ByteArray.size_append, strOfNums_size]; have := HUL.out; simp only [List.length_singleton]; omega
            generalize strOfNums [(0 : Int)] ++ u = S0 at *
            have HS0 := Aside0.mk (And.intro hS0 hS1)
            clear hS0 hS1
            go_wp2_with fail

            go_loopg [7, 9] l0.length (fun gg s7 s9 wr => ∃ (i : Nat) (S : ByteArray), i ≤ l0.length ∧ l0.length - i ≤ gg ∧ s9 = .int .i64 i ∧ s7 = .string S ∧ Aside0 (S = strOfNums ([0] ++ uintB l0.length ++ putB (l0.take i))) ∧ Aside0 (S.size ≤ 30 + 73 * i) ∧ Aside0 (Below w.heap.size w wr))
            case atStart => exact ⟨0, S0, by omega, by omega, rfl, rfl, ⟨by have := HS0.out.1; simpa [putB] using this⟩, ⟨by have := HS0.out.2; omega⟩, HB3⟩
            case round =>
              clear HB3
              obtain ⟨i, S, hi, hgg, rfl, rfl, HSE, HSS, HLw⟩ := hrel
              by_cases hlt : i < l0.length
              · have hltn : decide (i < l0.length) = true := decide_eq_true hlt
                have hltz : decide ((i : Int) < (l0.length : Int)) = true := decide_eq_true (by omega)
                have hiT : ((i : Int) < (l0.length : Int)) = True := eq_true (by omega)
                have hi0 : ((0 : Int) ≤ (i : Int)) = True := eq_true (by omega)
                have hpi : IntKind.i64.wrap ((i : Int) + 1) = (i : Int) + 1 := IntWalk.i64_in _ (by have := HN.out; omega)
                obtain ⟨ad, e, hx⟩ := Kd.at_string HR.out (i : Int) (by omega) (by omega)
                cases e
                replace hx := (HLw.out.cell (World.block_lt_of_cell? w _ hx)).trans hx
                rw [Int.toNat_natCast] at hx
                have hxe : rdOf ByteArray.empty l0 (i : Int) = l0[i] := by simp [rdOf, hlt]
                have hsz : (rdOf ByteArray.empty l0 (i : Int)).size ≤ 64 := by rw [hxe]; exact HS.out _ (List.getElem_mem hlt)
                have htk : l0.take (i + 1) = l0.take i ++ [rdOf ByteArray.empty l0 (i : Int)] := by rw [List.take_add_one, List.getElem?_eq_getElem hlt, hxe]; rfl
                have HIJ := Aside0.mk (And.intro hi (And.intro hgg hlt)); have HTK := Aside0.mk htk
                generalize rdOf ByteArray.empty l0 (i : Int) = x at *
                have htc := fun W => tithebarnref01_Text.calls x _ W (textR_f x hsz)
                have htl : (strOfNums (textB x)).size ≤ 73 := by rw [strOfNums_size]; have := textB_length x; omega
                obtain ⟨tx, htx⟩ : ∃ tx, tx = strOfNums (textB x) := ⟨_, rfl⟩
                rw [← htx] at htc htl
                have HT := Aside0.mk htc; have HTX := Aside0.mk htx; have HTZ := Aside0.mk htl
                have hilim : i ≤ 65536 := by have := HN.out; omega
                obtain ⟨g1, g2, g3⟩ := add_ok (a := S.size) (b := tx.size) (by have := HSS.out; have := HTZ.out; omega)
                clear hi hgg hlt hxe htc htx htl hsz htk hilim
                go_wp2_with fail
                refine (HT.out _).mono ?_
                rintro e w2 ⟨rfl, hb2⟩
                have HL2 := Aside0.mk (HLw.out.trans (hb2.mono HLw.out.size))
                clear hb2 hx HT
                go_wp2_with fail
                go_roundg (l0.length - (i + 1))
                case measure => have := HIJ.out; omega
                case rel =>
                  refine ⟨i + 1, S ++ tx, by have := HIJ.out; omega, by have := HIJ.out; omega, by push_cast; rfl, rfl, ⟨?_⟩, ⟨?_⟩, HL2⟩
                  · rw [HTK.out, putB_snoc, ← List.append_assoc, strOfNums_append, ← HSE.out, HTX.out]
                  · rw [ByteArray.size_append]; have := HSS.out; have := HTZ.out; omega
              · have hie : i = l0.length := by omega
                subst hie
                rw [List.take_length] at HSE
                have hltn : decide (l0.length < l0.length) = false := decide_eq_false (by omega)
                have hltz : decide ((l0.length : Int) < (l0.length : Int)) = false := decide_eq_false (by omega)
                clear hi hgg hlt
                go_wp2_with fail
                go_ret2
                exact ⟨by rw [← HR1.out, HSE.out]; rfl, HLw.out⟩
    · rw [if_neg (by decide : ¬ (1 : Int) = 0)] at h
      injection h with e1 e2
      subst e2
      have HR1 := Aside0.mk e1
      clear e1
      go_enter Try.func11, Try.ntmps11
      go_wp2_with fail
      go_loopg [6] l0.length (fun gg s6 wr => ∃ i : Nat, i ≤ l0.length ∧ l0.length - i ≤ gg ∧ s6 = .int .i64 i ∧ Aside0 (Below w.heap.size w wr))
      case atStart => exact ⟨0, by omega, by omega, rfl, HL0⟩
      case round =>
        clear HL0
        obtain ⟨i, hi, hgg, rfl, HLw⟩ := hrel
        by_cases hlt : i < l0.length
        · have hltn : decide (i < l0.length) = true := decide_eq_true hlt
          have hltz : decide ((i : Int) < (l0.length : Int)) = true := decide_eq_true (by omega)
          have hiT : ((i : Int) < (l0.length : Int)) = True := eq_true (by omega)
          have hi0 : ((0 : Int) ≤ (i : Int)) = True := eq_true (by omega)
          have hpi : IntKind.i64.wrap ((i : Int) + 1) = (i : Int) + 1 := IntWalk.i64_in _ (by omega)
          obtain ⟨ad, e, hx⟩ := Kd.at_string HR.out (i : Int) (by omega) (by omega)
          cases e
          replace hx := (HLw.out.cell (World.block_lt_of_cell? w _ hx)).trans hx
          rw [Int.toNat_natCast] at hx
          have hxe : rdOf ByteArray.empty l0 (i : Int) = l0[i] := by simp [rdOf, hlt]
          have hsz : (rdOf ByteArray.empty l0 (i : Int)).size ≤ 64 := by rw [hxe]; exact HS.out _ (List.getElem_mem hlt)
          have HIJ := Aside0.mk (And.intro hi (And.intro hgg hlt))
          generalize rdOf ByteArray.empty l0 (i : Int) = x at *
          clear hi hgg hlt hxe
          have hs1 : decide (64 < x.size) = false := decide_eq_false (by omega)
          have hs2 : decide ((64 : Int) < (x.size : Int)) = false := decide_eq_false (by omega)
          clear hsz
          go_wp2_with fail
          go_roundg (l0.length - (i + 1))
          case measure => have := HIJ.out; omega
          case rel => exact ⟨i + 1, by have := HIJ.out; omega, by have := HIJ.out; omega, by push_cast; rfl, HLw⟩
        · obtain rfl : i = l0.length := by omega
          have hltn : decide (l0.length < l0.length) = false := decide_eq_false (by omega)
          have hltz : decide ((l0.length : Int) < (l0.length : Int)) = false := decide_eq_false (by omega)
          go_upto_region 10 with fail
          go_cut [7] (fun s7 wc => s7 = .string (strOfNums [(1 : Int)] ++ u) ∧ Aside0 (Below w.heap.size w wc))
          case first =>
            have hk1 : (strOfNums [(1 : Int)]).size = 1 := by rw [strOfNums_size]; rfl
            obtain ⟨g1, g2, g3⟩ := add_ok (a := (strOfNums [(1 : Int)]).size) (b := u.size) (by have := HUL.out; omega)
            have HZ := Aside0.mk (Below.refl wr.heap.size wr)
            have HB2 := HZ
            have hcA := box_string2 1 wr ((wr.alloc (.cells #[.int .u8 (IntKind.u8.wrap 1)] 5)).drew) (below_drew (Below.refl _ _))
            clear hk1
            go_wp2_with fail
            go_region_with
              (first
                | (go_at_call 26; refine (HU.out _).mono ?_; rintro e w2 ⟨rfl, hb'⟩; (first | (have hcD := box_string2 1 wr w2 ((below_drew (Below.refl _ _)).trans (hb'.mono (Nat.le_refl _)))) | (have hcD := box_string 1 w2 w2 rfl)); (have HB3 := Aside0.mk (Below.trans (by first | exact (below_drew HZ.out) | exact (below_drew HZ.out).alloc (below_drew HZ.out).size _) (hb'.mono (by first | exact (below_drew HZ.out).size | exact ((below_drew HZ.out).alloc (below_drew HZ.out).size _).size)))); clear HB2; (have HB2 := HB3); clear HB3 hb'))
            all_goals (
              go_wp2_with fail
              go_meet
              exact ⟨rfl, ⟨HLw.out.trans (Below.mono (by first | exact HB2.out | exact HB2.out.alloc HB2.out.size _) HLw.out.size)⟩⟩)
          case rest =>
            obtain ⟨rfl, HB3⟩ := hcut
            clear HLw
            have hS0 : strOfNums [(1 : Int)] ++ u = strOfNums ([1] ++ uintB l0.length) := by rw [strOfNums_append, HUE.out]
            have hS1 : (strOfNums [(1 : Int)] ++ u).size ≤ 10 := by rw [ByteArray.size_append, strOfNums_size]; have := HUL.out; simp only [List.length_singleton]; omega
            generalize strOfNums [(1 : Int)] ++ u = S0 at *
            have HSa := Aside0.mk (And.intro hS0 hS1)
            have hdc := tithebarnref05_Dictionary.calls A0 c0 l0 (dictP l0) wc (Kd.C_below HR.out HB3.out) hc0 (by unfold tithebarnref05_Dictionary.f; rw [if_pos ⟨HN.out, HS.out⟩])
            have HDC := Aside0.mk hdc
            have hwL := dictP_len l0
            have HMW : Aside0 (∀ x ∈ l0, x ∈ dictP l0) := ⟨fun x hx => by rw [dictP_words]; exact (mem_words l0 x).2 hx⟩
            have HWS : Aside0 (∀ x ∈ dictP l0, x.size ≤ 64) := ⟨fun x hx => HS.out x (dictP_mem l0 x hx)⟩
            have HWE0 := Aside0.mk (rfl : dictP l0 = dictP l0)
            obtain ⟨ws, hws⟩ : ∃ ws, ws = dictP l0 := ⟨_, rfl⟩
            rw [← hws] at HDC HMW HWS hwL
            have HWE : Aside0 (dictP l0 = ws) := ⟨hws.symm⟩
            have HWL : Aside0 (ws.length ≤ 65536) := ⟨by have := HN.out; omega⟩
            clear hS0 hS1 hdc hws hwL HWE0
            go_wp2_with fail
            refine HDC.out.mono ?_
            rintro e w6 ⟨v6, rfl, hr6, hb6⟩
            obtain ⟨A6, c6, hv6, hc6, hC6⟩ := Kd.R_reads hr6
            subst hv6
            have HB6 := Aside0.mk (HB3.out.trans (hb6.mono HB3.out.size))
            have hwlw : IntKind.u64.wrap (ws.length : Int) = (ws.length : Int) := IntWalk.u64_in _ (by have := HWL.out; omega)
            have huc := tithebarnref01_Uint.calls (ws.length : Int) _ w6 (uintR_f ws.length HWL.out)
            have hul : (strOfNums (uintB (ws.length : Int))).size ≤ 9 := by rw [strOfNums_size]; exact uintB_length _
            obtain ⟨u2, hu2⟩ : ∃ u2, u2 = strOfNums (uintB (ws.length : Int)) := ⟨_, rfl⟩
            rw [← hu2] at huc hul
            have HU2 := Aside0.mk huc
            obtain ⟨g1, g2, g3⟩ := add_ok (a := S0.size) (b := u2.size) (by have := HSa.out.2; omega)
            have hS0 : S0 ++ u2 = strOfNums ([1] ++ uintB l0.length ++ uintB ws.length) := by rw [strOfNums_append, HSa.out.1, hu2]
            have hS1 : (S0 ++ u2).size ≤ 30 := by rw [ByteArray.size_append]; have := HSa.out.2; omega
            have HS0 := Aside0.mk (And.intro hS0 hS1)
            have HC6a := Aside0.mk hC6
            clear hr6 hb6 hC6 huc hul hu2 hS0 hS1 HDC HB3
            go_wp2_with fail
            refine HU2.out.mono ?_
            rintro e w7 ⟨rfl, hb7⟩
            have HC6 := Aside0.mk (Kd.C_below HC6a.out hb7)
            have HB7 := Aside0.mk (HB6.out.trans (hb7.mono HB6.out.size))
            have HZ7 := Aside0.mk (Below.refl w7.heap.size w7)
            clear hb7 HC6a HB6 HU2
            go_wp2_with fail
            clear g1 g2 g3
            generalize S0 ++ u2 = S2 at *

            go_loopg [7, 9] ws.length (fun gg s7 s9 wr => ∃ (i : Nat) (S : ByteArray), i ≤ ws.length ∧ ws.length - i ≤ gg ∧ s9 = .int .i64 i ∧ s7 = .string S ∧ Aside0 (S = strOfNums ([1] ++ uintB l0.length ++ uintB ws.length ++ putB (ws.take i))) ∧ Aside0 (S.size ≤ 30 + 73 * i) ∧ Aside0 (Below w7.heap.size w7 wr))
            case atStart => exact ⟨0, S2, by omega, by omega, rfl, rfl, ⟨by have := HS0.out.1; simpa [putB] using this⟩, ⟨by have := HS0.out.2; omega⟩, HZ7⟩
            case round =>
              clear HZ7
              obtain ⟨i, S, hi, hgg, rfl, rfl, HSE, HSS, HLw⟩ := hrel
              by_cases hlt : i < ws.length
              · have hltn : decide (i < ws.length) = true := decide_eq_true hlt
                have hltz : decide ((i : Int) < (ws.length : Int)) = true := decide_eq_true (by omega)
                have hiT : ((i : Int) < (ws.length : Int)) = True := eq_true (by omega)
                have hi0 : ((0 : Int) ≤ (i : Int)) = True := eq_true (by omega)
                have hpi : IntKind.i64.wrap ((i : Int) + 1) = (i : Int) + 1 := IntWalk.i64_in _ (by have := HWL.out; omega)
                obtain ⟨ad, e, hx⟩ := Kd.at_string HC6.out (i : Int) (by omega) (by omega)
                cases e
                replace hx := (HLw.out.cell (World.block_lt_of_cell? w7 _ hx)).trans hx
                rw [Int.toNat_natCast] at hx
                have hxe : rdOf ByteArray.empty ws (i : Int) = ws[i] := by simp [rdOf, hlt]
                have hsz : (rdOf ByteArray.empty ws (i : Int)).size ≤ 64 := by rw [hxe]; exact HWS.out _ (List.getElem_mem hlt)
                have htk : ws.take (i + 1) = ws.take i ++ [rdOf ByteArray.empty ws (i : Int)] := by rw [List.take_add_one, List.getElem?_eq_getElem hlt, hxe]; rfl
                have HIJ := Aside0.mk (And.intro hi (And.intro hgg hlt)); have HTK := Aside0.mk htk
                generalize rdOf ByteArray.empty ws (i : Int) = x at *
                have htc := fun W => tithebarnref01_Text.calls x _ W (textR_f x hsz)
                have htl : (strOfNums (textB x)).size ≤ 73 := by rw [strOfNums_size]; have := textB_length x; omega
                obtain ⟨tx, htx⟩ : ∃ tx, tx = strOfNums (textB x) := ⟨_, rfl⟩
                rw [← htx] at htc htl
                have HT := Aside0.mk htc; have HTX := Aside0.mk htx; have HTZ := Aside0.mk htl
                have hilim : i ≤ 65536 := by have := HWL.out; omega
                obtain ⟨g1, g2, g3⟩ := add_ok (a := S.size) (b := tx.size) (by have := HSS.out; have := HTZ.out; omega)
                clear hi hgg hlt hxe htc htx htl hsz htk hilim
                go_wp2_with fail
                refine (HT.out _).mono ?_
                rintro e w2 ⟨rfl, hb2⟩
                have HL2 := Aside0.mk (HLw.out.trans (hb2.mono HLw.out.size))
                clear hb2 hx HT
                go_wp2_with fail
                go_roundg (ws.length - (i + 1))
                case measure => have := HIJ.out; omega
                case rel =>
                  refine ⟨i + 1, S ++ tx, by have := HIJ.out; omega, by have := HIJ.out; omega, by push_cast; rfl, rfl, ⟨?_⟩, ⟨?_⟩, HL2⟩
                  · rw [HTK.out, putB_snoc, ← List.append_assoc, strOfNums_append, ← HSE.out, HTX.out]
                  · rw [ByteArray.size_append]; have := HSS.out; have := HTZ.out; omega
              · have hie : i = ws.length := by omega
                subst hie
                rw [List.take_length] at HSE
                have hltn : decide (ws.length < ws.length) = false := decide_eq_false (by omega)
                have hltz : decide ((ws.length : Int) < (ws.length : Int)) = false := decide_eq_false (by omega)
                clear hi hgg hlt
                have HSF : Aside0 (S = strOfNums ([1] ++ uintB l0.length ++ uintB ws.length ++ putB ws)) := HSE
                have HSG : Aside0 (S.size ≤ 5000000) := ⟨by have := HSS.out; have := HWL.out; omega⟩
                have HRw := Aside0.mk (Kd.C_below HC6.out HLw.out)
                obtain ⟨w8, hw8⟩ : ∃ w8, w8 = wr := ⟨_, rfl⟩
                have HLz := HLw
                rw [← hw8] at HLz HRw ⊢
                have HL8 := Aside0.mk (HB7.out.trans (HLz.out.mono HB7.out.size))
                have HNU := Aside0.mk (nums_u64 l0 HN.out)
                rw [← dictP_words, HWE.out] at HNU
                have HZ8 := Aside0.mk (Below.refl w8.heap.size w8)
                clear hw8 HLw HLz HSE HSS
                go_wp2_with fail
                go_loopg [10, 11] l0.length (fun gg s10 s11 wr => ∃ j : Nat, j ≤ l0.length ∧ l0.length - j ≤ gg ∧ s11 = .int .i64 j ∧ Aside0 (Below w8.heap.size w8 wr) ∧ Aside0 (Kd.R (Kd.int .u64) 38 wr w8.heap.size (fun _ => True) s10 (numsP ws (l0.take j))))
                case atStart => exact ⟨0, by omega, by omega, rfl, HZ8, ⟨Kd.R_nil _ _ _ _ _⟩⟩
                case round =>
                  clear HZ8
                  obtain ⟨j, hj, hgg, rfl, HL9, HN9⟩ := hrel
                  obtain ⟨A9, c9, hv9⟩ := Kd.R_slice HN9.out
                  have hjl : (numsP ws (l0.take j)).length = j := by unfold numsP; rw [List.length_map, List.length_take]; omega
                  rw [hjl] at hv9
                  subst hv9
                  by_cases hlt : j < l0.length
                  · have hltn : decide (j < l0.length) = true := decide_eq_true hlt
                    have hltz : decide ((j : Int) < (l0.length : Int)) = true := decide_eq_true (by omega)
                    have hjT : ((j : Int) < (l0.length : Int)) = True := eq_true (by omega)
                    have hj0 : ((0 : Int) ≤ (j : Int)) = True := eq_true (by omega)
                    have hpj : IntKind.i64.wrap ((j : Int) + 1) = (j : Int) + 1 := IntWalk.i64_in _ (by omega)
                    obtain ⟨ad, e, hx⟩ := Kd.at_string HR.out (j : Int) (by omega) (by omega)
                    cases e
                    have hb9 := HL8.out.trans (HL9.out.mono HL8.out.size)
                    replace hx := (hb9.cell (World.block_lt_of_cell? w _ hx)).trans hx
                    rw [Int.toNat_natCast] at hx
                    have hxe : rdOf ByteArray.empty l0 (j : Int) = l0[j] := by simp [rdOf, hlt]
                    have htk : numsP ws (l0.take (j + 1)) = numsP ws (l0.take j) ++ [(posP ws (rdOf ByteArray.empty l0 (j : Int)) : Int)] := by
                      unfold numsP
                      rw [List.take_add_one, List.getElem?_eq_getElem hlt, List.map_append, hxe]
                      rfl
                    have hmem : rdOf ByteArray.empty l0 (j : Int) ∈ ws := by rw [hxe]; exact HMW.out _ (List.getElem_mem hlt)
                    have hat := tithebarnref05_at.calls 100000 A6 c6 ws (rdOf ByteArray.empty l0 (j : Int)) _ wr (Kd.C_below HRw.out HL9.out) hc6 (at_f 100000 ws _ (by have := HWL.out; omega) (by have := HWL.out; omega))
                    have hpl := posP_lt hmem
                    have hap : atP ws (rdOf ByteArray.empty l0 (j : Int)) = (posP ws (rdOf ByteArray.empty l0 (j : Int)) : Int) := by unfold atP; rw [if_pos hpl]
                    rw [hap] at hat
                    have hpw : IntKind.u64.wrap (posP ws (rdOf ByteArray.empty l0 (j : Int)) : Int) = (posP ws (rdOf ByteArray.empty l0 (j : Int)) : Int) := IntWalk.u64_in _ (by have := HWL.out; omega)
                    have HTK := Aside0.mk htk; have HAT := Aside0.mk hat; have HJ := Aside0.mk (And.intro hj (And.intro hgg hlt)); have HJL := Aside0.mk hjl
                    clear htk hmem hat hb9 hxe hpl hap hj hgg hlt hjl
                    generalize posP ws (rdOf ByteArray.empty l0 (j : Int)) = q at *
                    generalize rdOf ByteArray.empty l0 (j : Int) = x at *
                    go_wp2_with fail
                    refine HAT.out.mono ?_
                    rintro e wa ⟨rfl, ⟨qa, rfl⟩⟩
                    have HLa : Aside0 (Below w8.heap.size w8 (wr.drewN qa)) := ⟨by apply pw_below_drewN; exact HL9.out⟩
                    have HNa := Aside0.mk (Kd.R_drewN HN9.out qa)
                    generalize wr.drewN qa = wa at *
                    clear HAT HL9 HN9 hx
                    go_wp2_with (first | (at_builtin; refine Kd.R_append (Kd.int .u64) (w0 := w8) w8.heap.size rfl _ _ 45 38 (.int .u64 0) 8 rfl Try.underlying45 info38 rfl (by decide) (by omega) (.slice A9 j c9) (numsP ws (l0.take j)) (q : Int) [.int .u64 (q : Int)] (fun _ => True) (fun _ => False) rfl rfl rfl (fun _ hk => hk.elim) (fun _ _ => trivial) HNa.out HLa.out HLa.out.size (by rw [HJL.out]; have := HJ.out; have := HN.out; omega) ?_; intro v9 wb ho hb hgr hat2; (have HNb := Aside0.mk ho); (have HLb := Aside0.mk hb); clear hat2 hgr ho hb))
                    go_roundg (l0.length - (j + 1))
                    case measure => have := HJ.out; omega
                    case rel => exact ⟨j + 1, HJ.out.2.2, by have := HJ.out; omega, by push_cast; rfl, HLb, ⟨by rw [HTK.out]; exact HNb.out⟩⟩
                  · have hje : j = l0.length := by omega
                    subst hje
                    rw [List.take_length] at HN9 hjl
                    have hltn : decide (l0.length < l0.length) = false := decide_eq_false (by omega)
                    have hltz : decide ((l0.length : Int) < (l0.length : Int)) = false := decide_eq_false (by omega)
                    obtain ⟨Ab, cb, hvb, hcb, hCb⟩ := Kd.R_reads HN9.out
                    rw [hjl] at hvb
                    injection hvb with ea eb ec
                    subst ea; subst ec
                    clear eb
                    have hnE : numsP ws l0 = numsP ws l0 := rfl
                    generalize hnm : numsP ws l0 = nums at *
                    have HNM := Aside0.mk hnm
                    have hwd := tithebarnref03_Width.calls 600000 A9 c9 nums ((widthP nums : Nat) : Int) wr hCb hcb (width3_f 600000 nums HNU.out (by omega) (by omega))
                    rw [hjl] at hwd
                    have hwr : widthP nums ≤ 64 := (widthP_le nums 64).2 (fun y hy => by have := HNU.out y hy; simp; omega)
                    have hwq : ∀ y ∈ nums, 0 ≤ y ∧ y < 2 ^ widthP nums := fun y hy => ⟨(HNU.out y hy).1, lt_pow_of (HNU.out y hy).1 ((widthP_le nums (widthP nums)).1 (Nat.le_refl _) y hy)⟩
                    have hpf := pack3_f 20000000 nums (widthP nums) hwr hwq (by omega) (by
                      have h1 : nums.length * widthP nums ≤ 65536 * 64 := Nat.mul_le_mul (by omega) hwr
                      have h2 : nums.length * (widthP nums + 2) ≤ 65536 * 66 := Nat.mul_le_mul (by omega) (by omega)
                      omega)
                    have HWD := Aside0.mk hwd; have HCb := Aside0.mk hCb; have HWR := Aside0.mk hwr; have HJL := Aside0.mk hjl; have HCZ := Aside0.mk hcb; have HPF := Aside0.mk hpf
                    clear hpf hwq
                    generalize hwv : widthP nums = wv at *
                    have HWV := Aside0.mk hwv
                    clear hwd hCb hwr hjl hcb hnm hwv hlt hj hgg hnE
                    go_wp2_with fail
                    refine HWD.out.mono ?_
                    rintro e wa ⟨rfl, ⟨qa, rfl⟩⟩
                    have HLa : Aside0 (Below w8.heap.size w8 (wr.drewN qa)) := ⟨by apply pw_below_drewN; exact HL9.out⟩
                    have HBa : Aside0 (Below wr.heap.size wr (wr.drewN qa)) := ⟨by apply pw_below_drewN; exact Below.refl _ _⟩
                    have HCa := Aside0.mk (Kd.C_below HCb.out HBa.out)
                    generalize wr.drewN qa = wa at *
                    clear HWD HL9 HN9 HCb HBa
                    go_wp2_with fail
                    have hpk := tithebarnref03_Pack.calls 20000000 A9 c9 nums (wv : Int) _ _ wa HCa.out HCZ.out HPF.out
                    rw [HJL.out] at hpk
                    have HPK := Aside0.mk hpk
                    clear hpk HPF HCa
                    have hpl := pack_len nums wv (by rw [HJL.out]; exact HN.out) HWR.out
                    have hps : (strOfNums (packB (allBits wv nums))).size ≤ 524289 := by rw [strOfNums_size]; exact hpl
                    obtain ⟨pk, hpke⟩ : ∃ pk, pk = strOfNums (packB (allBits wv nums)) := ⟨_, rfl⟩
                    rw [← hpke] at HPK hps
                    have HPE := Aside0.mk hpke; have HPS := Aside0.mk hps
                    clear hpke hps hpl
                    refine HPK.out.mono ?_
                    rintro e wb ⟨rfl, hbb⟩
                    have HLb := Aside0.mk (HLa.out.trans (hbb.mono HLa.out.size))
                    clear hbb HPK HLa
                    obtain ⟨k8, hk8⟩ : ∃ k8, k8 = strOfNums [(wv : Int) % 256] := ⟨_, rfl⟩
                    have hkb : k8.size = 1 := by rw [hk8, strOfNums_size]; rfl
                    obtain ⟨g1, g2, g3⟩ := add_ok (a := S.size) (b := k8.size) (by have := HSG.out; omega)
                    obtain ⟨g4, g5, g6⟩ := add_ok (a := S.size + k8.size) (b := pk.size) (by have := HSG.out; have := HPS.out; omega)
                    obtain ⟨g7, g8, g9⟩ := add_ok (a := (S ++ k8).size) (b := pk.size) (by rw [ByteArray.size_append]; have := HSG.out; have := HPS.out; omega)
                    have HK8 := Aside0.mk hk8
                    clear hkb
                    go_wp2_with fail
                    rw [own_string Try.underlying36 Try.underlying5 Try.underlying9 (Kd.own_of_R (R_lit1 _ _ (Nat.le_refl _) _)), ← HK8.out]
                    clear hk8
                    go_wp2_with fail
                    go_ret2
                    refine ⟨?_, HL8.out.trans (Below.mono (by first | exact HLb.out | exact HLb.out.alloc HLb.out.size _) HL8.out.size)⟩
                    have hfin : strOfNums ([1] ++ uintB l0.length ++ dictB l0) = S ++ k8 ++ pk := by
                      rw [HSF.out, HPE.out, HK8.out, ← strOfNums_append, ← strOfNums_append]
                      unfold dictB
                      rw [← dictP_words, HWE.out, HNM.out, HWV.out]
                      simp only [← List.append_assoc]
                      rw [strOfNums_append, bytesOf_back, ← strOfNums_append]
                    rw [← HR1.out, hfin]
                    rfl
end Go.Proofs.Ytimjafjicnlhfaa.A
