/- texts.With: texts as bytes, by a codec. -/
import Derived.Test.YtimjafjicnlhfaaKrAx0
import Derived.Test.YtimjafjicnlhfaaKrAx1
import Derived.Test.YtimjafjicnlhfaaKrAx2
import Derived.Test.YtimjafjicnlhfaaKrHLong
import Derived.Test.YtimjafjicnlhfaaKrHDictP
import Derived.Test.YtimjafjicnlhfaaKrHUintP
import Derived.Test.YtimjafjicnlhfaaKrHWidth
import Derived.Test.YtimjafjicnlhfaaKrHPack
namespace Go.Proofs.Ytimjafjicnlhfaa.A
open Go.RowKit Go.Proofs.YtimjafjicnlhfaaW.PrintWords Go.Proofs.YtimjafjicnlhfaaW.PrintLast Go.Proofs.YtimjafjicnlhfaaW.PrintMore
open Go.Shelf Go.Sort Go.Maps
set_option linter.unusedVariables false
set_option linter.unusedSimpArgs false
def dictB (l : List ByteArray) : List Int :=
  uintB (wordsP l).length ++ putB (wordsP l) ++ [((widthP (numsP (wordsP l) l) : Nat) : Int) % 256] ++ bytesOf (strOfNums (packB (allBits (widthP (numsP (wordsP l) l)) (numsP (wordsP l) l))))
def withP (l : List ByteArray) (codec : Int) : ByteArray × Int :=
  if codec < 0 ∨ 1 < codec then (⟨#[]⟩, 1) else
  if longP l = true then (⟨#[]⟩, 3) else
  if codec = 0 then (strOfNums ([0] ++ uintB l.length ++ putB l), 0) else (strOfNums ([1] ++ uintB l.length ++ dictB l), 0)
def texts_With.f (l : List ByteArray) (codec : Int) : Option (ByteArray × Int) := some (withP l codec)
theorem rows_ne {α β : Type} {d1 : Kd α} {d2 : Kd β} {e1 e2 b1 b2 : Nat} {ok1 ok2 : Nat → Prop} {w : World} {v1 v2 : Value} {x1 : List α} {x2 : List β} (h1 : d1.R e1 w b1 ok1 v1 x1) (h2 : d2.R e2 w b2 ok2 v2 x2) (he : e1 ≠ e2) : ∀ k, v1.ownBlock = some k → ¬ some k = v2.ownBlock := fun k hk e => by
  obtain ⟨i1, o1⟩ := Kd.R_own h1
  obtain ⟨i2, o2⟩ := Kd.R_own h2
  obtain ⟨c1, a1⟩ := own_typed o1 k hk
  obtain ⟨c2, a2⟩ := own_typed o2 k e.symm
  rw [a1] at a2
  simp at a2
  exact he a2.2
theorem encs_words (l : List ByteArray) : encs Value.string (wordsP l) = (wordsB l).map encStr := by
  unfold wordsP encs
  rw [List.map_map]
  rfl
theorem nums_u64 (l : List ByteArray) (hl : l.length ≤ 65536) : U64 (numsP (wordsP l) l) := by
  intro x hx
  obtain ⟨s, hs, rfl⟩ := List.mem_map.1 hx
  have := posP_lt ((mem_words l s).2 hs)
  have := wordsP_le l
  omega
theorem pack_f (nums : List Int) (hu : U64 nums) (hl : nums.length ≤ 65536) (hw : widthP nums ≤ 64) : bits_Pack.f nums ((widthP nums : Nat) : Int) = some (strOfNums (packB (allBits (widthP nums) nums)), 0) := by
  unfold bits_Pack.f
  rw [if_pos ⟨hu, by omega⟩, if_neg (by omega), width_f (nums.length + 9) nums hu (by omega) (by omega)]
  simp only [Option.bind_some]
  rw [if_neg (by omega), Int.toNat_natCast]
theorem putB_length (l : List ByteArray) (hs : ∀ s ∈ l, s.size ≤ 64) : (putB l).length ≤ 73 * l.length := by
  induction l with
  | nil => simp [putB]
  | cons s l ih =>
    have h1 := ih (fun x hx => hs x (List.mem_cons_of_mem _ hx))
    have h2 := hs s (List.mem_cons_self ..)
    have h3 := textB_length s
    unfold putB at h1 ⊢
    rw [List.flatMap_cons, List.length_append, List.length_cons]
    omega
theorem pack_len (nums : List Int) (w : Nat) (hn : nums.length ≤ 65536) (hw : w ≤ 64) : (packB (allBits w nums)).length ≤ 524289 := by
  rw [packB_length, allBits_length]
  have : nums.length * w ≤ 4194304 := Nat.le_trans (Nat.mul_le_mul hn hw) (by decide)
  omega
theorem longP_false {l : List ByteArray} (h : longP l = false) : l.length ≤ 65536 ∧ ∀ s ∈ l, s.size ≤ 64 := by
  unfold longP at h
  rw [Bool.or_eq_false_iff] at h
  refine ⟨by have := of_decide_eq_false h.1; omega, fun s hs => ?_⟩
  have := List.any_eq_false.1 h.2 s hs
  unfold longT at this
  simp at this
  exact this
theorem R_lit1 (w : World) (base : Nat) (hb : base ≤ w.heap.size) (x : Int) : Kd.R (Kd.int .u8) 5 (w.alloc (.cells #[.int .u8 x] 5)) base (fun k => k = w.heap.size) (.slice (some ⟨w.heap.size, 0, none⟩) 1 1) [x] :=
  Kd.R_of_own (h1 := fun _ => rfl) ⟨rfl, .inr ⟨w.heap.size, 1, #[.int .u8 x], rfl, hb, by simpa using heap_alloc_new w (.cells #[.int .u8 x] 5), Nat.le_refl _, by decide, rfl, rfl⟩⟩ (fun k hk => by simp [Value.ownBlock] at hk; omega)
set_option maxHeartbeats 8000000 in
set_option maxRecDepth 100000 in
theorem texts_With.calls (A0 : Option Addr) (c0 : Nat) (l0 : List ByteArray) (a1 : Int) (r1 : ByteArray) (r2 : Int) (w : World) (hr0 : Kd.C Kd.string w A0 l0.length l0) (hc0 : l0.length ≤ c0) (h : texts_With.f l0 a1 = some (r1, r2)) :
    Calls Try.prog 10 #[.slice A0 l0.length c0, .int .i64 a1] w fun e w' => e = .returned (.tuple #[.string r1, .int .i64 r2]) ∧ Below w.heap.size w w' := by
  replace h : withP l0 a1 = (r1, r2) := Option.some.inj h
  unfold withP at h
  have hbig := hr0.2.1
  by_cases hcd : a1 < 0 ∨ 1 < a1
  · rw [if_pos hcd] at h
    injection h with e1 e2
    subst e1; subst e2
    clear hr0
    by_cases hc : a1 < 0
    · have g1 : decide (a1 < 0) = true := decide_eq_true hc
      go_enter Try.func10, Try.ntmps10
      go_wp2_with fail
      go_ret2
      exact ⟨rfl, Below.refl _ _⟩
    · have g1 : decide (a1 < 0) = false := decide_eq_false hc
      have g2 : decide (2 ≤ a1) = true := decide_eq_true (by omega)
      go_enter Try.func10, Try.ntmps10
      go_wp2_with fail
      go_ret2
      exact ⟨rfl, Below.refl _ _⟩
  · rw [if_neg hcd] at h
    have g1 : decide (a1 < 0) = false := decide_eq_false (by omega)
    have g2 : decide (2 ≤ a1) = false := decide_eq_false (by omega)
    have hlc := long.calls A0 c0 l0 w hr0
    have HR := Aside0.mk hr0
    clear hr0
    by_cases hlg : longP l0 = true
    · rw [if_pos hlg] at h
      rw [hlg] at hlc
      injection h with e1 e2
      subst e1; subst e2
      have HLC := Aside0.mk hlc
      clear hlc hlg
      go_enter Try.func10, Try.ntmps10
      go_wp2_with fail
      refine HLC.out.mono ?_
      rintro e w1 ⟨rfl, hb1⟩
      have HB1 := Aside0.mk hb1
      clear hb1 HLC
      go_wp2_with fail
      go_ret2
      exact ⟨rfl, HB1.out⟩
    · rw [if_neg hlg] at h
      have hlf : longP l0 = false := by simpa using hlg
      rw [hlf] at hlc
      obtain ⟨hn, hs64⟩ := longP_false hlf
      have HLC := Aside0.mk hlc; have HS := Aside0.mk hs64; have HN := Aside0.mk hn
      have hwl : IntKind.u64.wrap (l0.length : Int) = (l0.length : Int) := IntWalk.u64_in _ (by omega)
      clear hlc hlg hlf hs64
      by_cases hcz : a1 = 0
      · rw [if_pos hcz] at h
        subst hcz
        injection h with e1 e2
        subst e1; subst e2
        clear hcd g1 g2
        go_enter Try.func10, Try.ntmps10
        go_wp2_with fail
        refine HLC.out.mono ?_
        rintro e w1 ⟨rfl, hb1⟩
        have HB1 := Aside0.mk hb1
        clear hb1 HLC
        go_wp2_with fail
        have hlit := Kd.R_mono (ok' := fun k => w.heap.size ≤ k) (R_lit1 w1 w.heap.size HB1.out.size 0) (fun k hk => by subst hk; exact HB1.out.size)
        have hbl : Below w.heap.size w (w1.alloc (.cells #[.int .u8 0] 5)) := HB1.out.alloc HB1.out.size _
        generalize (w1.alloc (.cells #[.int .u8 0] 5)) = w2 at *
        generalize w1.heap.size = g1 at *
        have huc := tally_Uint.calls 100 (fun k => w.heap.size ≤ k) (.slice (some ⟨g1, 0, none⟩) 1 1) [0] (l0.length : Int) ([0] ++ uintB l0.length) w w2 hbl hlit (uint_f2 100 [0] l0.length (by omega) (by omega) (by decide) (by decide))
        have HU := Aside0.mk huc; have HBL := Aside0.mk hbl
        clear huc hlit hbl HB1 w1
        refine HU.out.mono ?_
        rintro e w3 ⟨v3, rfl, hr3, hb3, hk3⟩
        have hr3 := Kd.R_mono (ok' := fun k => w.heap.size ≤ k) hr3 (fun k hk => hk.elim id (fun h => Nat.le_trans HBL.out.size h))
        have HR3 := Aside0.mk hr3; have HB3 := Aside0.mk hb3
        clear hr3 hb3 hk3 HU HBL
        go_wp2_with fail
        have hub := uintB_length (l0.length : Int)
        have hpc := texts_put.calls 100000 (fun k => w.heap.size ≤ k) v3 ([0] ++ uintB l0.length) A0 c0 l0 ([0] ++ uintB l0.length ++ putB l0) w w3 HB3.out HR3.out (Kd.C_kept_came Kd.heap_string HR.out HB3.out (fun k h => h)) hc0
          (put_f 100000 l0 _ HS.out HN.out (by omega) (by rw [List.length_append, List.length_singleton]; omega))
        have HP := Aside0.mk hpc
        clear hpc hub
        refine HP.out.mono ?_
        rintro e w4 ⟨v4, rfl, hr4, hb4, hk4⟩
        have HR4 := Aside0.mk hr4; have HB4 := Aside0.mk hb4
        clear hr4 hb4 hk4 HP HR3 HB3
        go_wp2_with fail
        rw [own_string Try.underlying36 Try.underlying5 Try.underlying9 (Kd.own_of_R HR4.out)]
        go_wp2_with fail
        go_ret2
        exact ⟨rfl, HB4.out⟩
      · rw [if_neg hcz] at h
        have hc1 : a1 = 1 := by omega
        subst hc1
        injection h with e1 e2
        subst e1; subst e2
        clear hcd g1 g2 hcz
        go_enter Try.func10, Try.ntmps10
        go_wp2_with fail
        refine HLC.out.mono ?_
        rintro e w1 ⟨rfl, hb1⟩
        have HB1 := Aside0.mk hb1
        clear hb1 HLC
        go_wp2_with fail
        have hlit := Kd.R_mono (ok' := fun k => w.heap.size ≤ k) (R_lit1 w1 w.heap.size HB1.out.size 1) (fun k hk => by subst hk; exact HB1.out.size)
        have hbl : Below w.heap.size w (w1.alloc (.cells #[.int .u8 1] 5)) := HB1.out.alloc HB1.out.size _
        generalize (w1.alloc (.cells #[.int .u8 1] 5)) = w2 at *
        generalize w1.heap.size = g1 at *
        have huc := tally_Uint.calls 100 (fun k => w.heap.size ≤ k) (.slice (some ⟨g1, 0, none⟩) 1 1) [1] (l0.length : Int) ([1] ++ uintB l0.length) w w2 hbl hlit (uint_f2 100 [1] l0.length (by omega) (by omega) (by decide) (by decide))
        have HU := Aside0.mk huc; have HBL := Aside0.mk hbl
        clear huc hlit hbl HB1 w1
        refine HU.out.mono ?_
        rintro e w3 ⟨v3, rfl, hr3, hb3, hk3⟩
        have hr3 := Kd.R_mono (ok' := fun k => w.heap.size ≤ k) hr3 (fun k hk => hk.elim id (fun h => Nat.le_trans HBL.out.size h))
        have HR3 := Aside0.mk hr3; have HB3 := Aside0.mk hb3
        clear hr3 hb3 hk3 HU HBL
        go_wp2_with fail
        refine (values.calls A0 l0.length c0 w3).mono ?_
        rintro e w4 ⟨rfl, hw4⟩
        have hb4 : Below w3.heap.size w3 w4 := by rw [hw4]; exact (Below.refl _ _).alloc (Nat.le_refl _) _
        have hlt4 : w3.heap.size < w4.heap.size := by rw [hw4]; simp
        have hm4 : w4.cell? ⟨w3.heap.size, 0, none⟩ = some (.slice A0 l0.length c0) := by
          have := heap_alloc_new w3 (.cells #[.slice A0 l0.length c0] 22)
          rw [← hw4] at this
          simp [World.cell?, this]
        have HSV := Aside0.mk (sortedV l0 A0 c0 w4 (Kd.C_below HR.out (HB3.out.trans (hb4.mono HB3.out.size))) hc0 (by omega) w3.heap.size hlt4 hm4)
        have HB4 := Aside0.mk hb4
        clear hb4 hlt4 hm4 hw4
        generalize hg3 : w3.heap.size = g3 at *
        have HG3 := Aside0.mk hg3
        clear hg3
        go_wp2_with fail
        refine HSV.out.mono ?_
        rintro e w5 ⟨v5, rfl, hrow5, hnil5, hb5⟩
        have hml : (strsOf l0).length = ((strsOf l0).mergeSort (fun x y => decide (x ≤ y))).length := (List.length_mergeSort _).symm
        rw [hml] at hrow5
        have hcv := compactV w4.heap.size v5 _ (by rw [← hml]; unfold strsOf; rw [List.length_map]; omega) w5 hrow5 hb5.size
        have HCV := Aside0.mk hcv; have HB5 := Aside0.mk hb5
        clear hcv hml hrow5 hnil5 hb5 HSV
        go_wp2_with fail
        refine HCV.out.mono ?_
        rintro e w6 ⟨v6, rfl, hrow6, hb6⟩
        have hrow6 : w6.ownsRow w4.heap.size 9 1 v6 (wordsP l0).length (encs Value.string (wordsP l0)) := by
          rw [encs_words, show (wordsP l0).length = (wordsB l0).length from List.length_map _]
          exact hrow6
        have hr6 : Kd.R Kd.string 9 w6 w4.heap.size (fun _ => True) v6 (wordsP l0) := Kd.R_of_own (h1 := fun _ => rfl) hrow6 (fun _ _ => trivial)
        have hb46 : Below w4.heap.size w4 w6 := HB5.out.trans hb6
        have hb36 : Below w3.heap.size w3 w6 := by
          have h4 := HB4.out
          rw [← HG3.out] at h4
          exact h4.trans (hb46.mono h4.size)
        have HB36 := Aside0.mk hb36
        have HB06 := Aside0.mk (HB3.out.trans (hb36.mono HB3.out.size))
        have hwle := wordsP_le l0
        have HR6 := Aside0.mk hr6
        obtain ⟨A6, c6, hv6, hc6, hC6⟩ := Kd.R_reads hr6
        subst hv6
        have HC6 := Aside0.mk hC6; have HWR := Aside0.mk (words_risen l0); have HMW := Aside0.mk (mem_words l0)
        have HNU := Aside0.mk (nums_u64 l0 hn)
        have hnl : (numsP (wordsP l0) l0).length = l0.length := List.length_map _
        have HNL := Aside0.mk hnl
        clear hrow6 hb6 hr6 hC6 hb46 hb36 hnl HCV HB5 HB4
        generalize hws : wordsP l0 = ws at *
        have HWS := Aside0.mk hws
        clear hws
        go_wp2_with fail
        go_loopg [8, 45] l0.length (fun gg s8 s45 wr => ∃ j : Nat, j ≤ l0.length ∧ l0.length - j ≤ gg ∧ s45 = .int .i64 j ∧ Aside0 (Below w6.heap.size w6 wr) ∧ Aside0 (Kd.R (Kd.int .u64) 38 wr w6.heap.size (fun _ => True) s8 (numsP ws (l0.take j))))
        case atStart => exact ⟨0, by omega, by omega, rfl, ⟨Below.refl _ _⟩, ⟨Kd.R_nil _ _ _ _ _⟩⟩
        case round =>
          obtain ⟨j, hj, hgg, rfl, HL7, HN7⟩ := hrel
          obtain ⟨A7, c7, hv7⟩ := Kd.R_slice HN7.out
          have hjl : (numsP ws (l0.take j)).length = j := by unfold numsP; rw [List.length_map, List.length_take]; omega
          rw [hjl] at hv7
          subst hv7
          by_cases hlt : j < l0.length
          · have hltn : decide (j < l0.length) = true := decide_eq_true hlt
            have hjT : ((j : Int) < (l0.length : Int)) = True := eq_true (by omega)
            have hj0 : ((0 : Int) ≤ (j : Int)) = True := eq_true (by omega)
            have hpj : IntKind.i64.wrap ((j : Int) + 1) = (j : Int) + 1 := IntWalk.i64_in _ (by omega)
            obtain ⟨ad, e, hx⟩ := Kd.at_string HR.out (j : Int) (by omega) (by omega)
            cases e
            have hb7 := HB06.out.trans (HL7.out.mono HB06.out.size)
            replace hx := (hb7.cell (World.block_lt_of_cell? w _ hx)).trans hx
            rw [Int.toNat_natCast] at hx
            have hxe : rdOf ByteArray.empty l0 (j : Int) = l0[j] := by simp [rdOf, hlt]
            have htk : numsP ws (l0.take (j + 1)) = numsP ws (l0.take j) ++ [(posP ws (rdOf ByteArray.empty l0 (j : Int)) : Int)] := by
              unfold numsP
              rw [List.take_add_one, List.getElem?_eq_getElem hlt, List.map_append, hxe]
              rfl
            have hmem : rdOf ByteArray.empty l0 (j : Int) ∈ ws := by rw [hxe]; exact (HMW.out _).2 (List.getElem_mem hlt)
            have hbs := slices_BinarySearch_string_string.calls 70000 A6 c6 ws (rdOf ByteArray.empty l0 (j : Int)) _ _ wr (Kd.C_below HC6.out HL7.out) hc6 (bs_pos 70000 HWR.out (by omega) hmem (by omega))
            have hpl := posP_lt hmem
            have hpw : IntKind.u64.wrap (posP ws (rdOf ByteArray.empty l0 (j : Int)) : Int) = (posP ws (rdOf ByteArray.empty l0 (j : Int)) : Int) := IntWalk.u64_in _ (by omega)
            have HTK := Aside0.mk htk; have HBS := Aside0.mk hbs; have HJ := Aside0.mk (And.intro hj (And.intro hgg hlt)); have HJL := Aside0.mk hjl
            clear htk hmem hbs hb7 hxe hpl hj hgg hlt hjl
            generalize posP ws (rdOf ByteArray.empty l0 (j : Int)) = q at *
            generalize rdOf ByteArray.empty l0 (j : Int) = x at *
            go_wp2_with fail
            refine HBS.out.mono ?_
            rintro e w8 ⟨rfl, ⟨q8, rfl⟩⟩
            have HL8 : Aside0 (Below w6.heap.size w6 (wr.drewN q8)) := ⟨by apply pw_below_drewN; exact HL7.out⟩
            have HN8 := Aside0.mk (Kd.R_drewN HN7.out q8)
            generalize wr.drewN q8 = w8 at *
            clear HBS HL7 HN7 hx
            go_wp2_with (first | (at_builtin; refine Kd.R_append (Kd.int .u64) (w0 := w6) w6.heap.size rfl _ _ 45 38 (.int .u64 0) 8 rfl Try.underlying45 info38 rfl (by decide) (by omega) (.slice A7 j c7) (numsP ws (l0.take j)) (q : Int) [.int .u64 (q : Int)] (fun _ => True) (fun _ => False) rfl rfl rfl (fun _ hk => hk.elim) (fun _ _ => trivial) HN8.out HL8.out HL8.out.size (by rw [HJL.out]; have := HJ.out; have := HN.out; omega) ?_; intro v9 w9 ho hb hgr hat2; (have HN9 := Aside0.mk ho); (have HL9 := Aside0.mk hb); clear hat2 hgr ho hb))
            go_roundg (l0.length - (j + 1))
            case measure => have := HJ.out; omega
            case rel => exact ⟨j + 1, HJ.out.2.2, by have := HJ.out; omega, by push_cast; rfl, HL9, ⟨by rw [HTK.out]; exact HN9.out⟩⟩
          · have hje : j = l0.length := by omega
            subst hje
            rw [List.take_length] at HN7 hjl
            have hltn : decide (l0.length < l0.length) = false := decide_eq_false (by omega)
            have hC7 := Kd.R_reads HN7.out
            obtain ⟨A8, c8, hv8, hc8, hC8⟩ := hC7
            rw [hjl] at hv8
            injection hv8 with ea eb ec
            subst ea; subst ec
            clear eb
            generalize hnm : numsP ws l0 = nums at *
            have HNM := Aside0.mk hnm
            have hwd := bits_Width.calls 600000 A7 c7 nums ((widthP nums : Nat) : Int) wr hC8 hc8 (width_f 600000 nums HNU.out (by omega) (by omega))
            rw [hjl] at hwd
            have hwr : widthP nums ≤ 64 := (widthP_le nums 64).2 (fun y hy => by have := HNU.out y hy; simp; omega)
            have HWD := Aside0.mk hwd; have HC8 := Aside0.mk hC8; have HWR := Aside0.mk hwr; have HJL := Aside0.mk hjl; have HC7 := Aside0.mk hc8
            have hpf := pack_f nums HNU.out (by omega) hwr
            have HPF := Aside0.mk hpf
            clear hpf
            generalize hwv : widthP nums = wv at *
            have HWV := Aside0.mk hwv
            clear hwd hC8 hwr hjl hc8 hnm hwv hlt hj hgg
            go_wp2_with fail
            refine HWD.out.mono ?_
            rintro e w8 ⟨rfl, ⟨q8, rfl⟩⟩
            have HL8 : Aside0 (Below w6.heap.size w6 (wr.drewN q8)) := ⟨by apply pw_below_drewN; exact HL7.out⟩
            have HB8 : Aside0 (Below wr.heap.size wr (wr.drewN q8)) := ⟨by apply pw_below_drewN; exact Below.refl _ _⟩
            have HC9 := Aside0.mk (Kd.C_below HC8.out HB8.out)
            generalize wr.drewN q8 = w8 at *
            clear HWD HL7 HN7 HC8 HB8
            go_wp2_with fail
            have hpk := bits_Pack.calls A7 c7 nums (wv : Int) _ _ w8 HC9.out HC7.out HPF.out
            rw [HJL.out] at hpk
            have HPK := Aside0.mk hpk
            clear hpk HPF HC9
            have hpl := pack_len nums wv (by rw [HJL.out]; exact hn) HWR.out
            generalize hpkd : packB (allBits wv nums) = pk at *
            have HPKD := Aside0.mk hpkd; have HPL := Aside0.mk hpl
            clear hpkd hpl
            refine HPK.out.mono ?_
            rintro e w9 ⟨rfl, hb9⟩
            have HL9 := Aside0.mk (HL8.out.trans (hb9.mono HL8.out.size))
            clear hb9 HPK HL8
            go_wp2_with fail
            have hwsu : IntKind.u64.wrap (ws.length : Int) = (ws.length : Int) := IntWalk.u64_in _ (by omega)
            have hb39 := HB36.out.trans (HL9.out.mono HB36.out.size)
            have hbw9 := HB06.out.trans (HL9.out.mono HB06.out.size)
            have hr3w := Kd.R_tight rfl (Kd.R_below HR3.out hb39)
            have hr6w := Kd.R_tight rfl (Kd.R_below HR6.out HL9.out)
            have hub := uintB_length (l0.length : Int)
            have hub2 := uintB_length (ws.length : Int)
            have huc := tally_Uint.calls 100 (fun k => some k = v3.ownBlock) v3 ([1] ++ uintB l0.length) (ws.length : Int) ([1] ++ uintB l0.length ++ uintB ws.length) w w9 hbw9 hr3w (uint_f2 100 _ ws.length (by omega) (by omega) (by decide) (by rw [List.length_append, List.length_singleton]; omega))
            refine huc.mono ?_
            rintro e w10 ⟨v10, rfl, hr10, hb10, hk10⟩
            have hr6x := Kd.R_kept hr6w hk10 (fun k hk e => rows_ne hr6w hr3w (by decide) k hk.symm e)
            have hr10t := Kd.R_tight rfl hr10
            have hsw : ∀ s ∈ ws, s.size ≤ 64 := fun s hs => HS.out s ((HMW.out s).1 hs)
            have hpb := putB_length ws hsw
            have hpc := texts_put.calls 100000 (fun k => some k = v10.ownBlock) v10 ([1] ++ uintB l0.length ++ uintB ws.length) A6 c6 ws ([1] ++ uintB l0.length ++ uintB ws.length ++ putB ws) w w10 hb10 hr10t
              (Kd.C_kept_own hr6x (fun k hk e => rows_ne hr6x hr10t (by decide) k hk.symm e)) hc6
              (put_f 100000 ws _ hsw (by omega) (by omega) (by rw [List.length_append, List.length_append, List.length_singleton]; omega))
            have HPC := Aside0.mk hpc
            have hln : ([1] ++ uintB l0.length ++ uintB ws.length ++ putB ws).length ≤ 10000000 := by
              rw [List.length_append, List.length_append, List.length_append, List.length_singleton]; omega
            have HLN := Aside0.mk hln
            generalize hacc : [1] ++ uintB l0.length ++ uintB ws.length ++ putB ws = acc at *
            have HACC := Aside0.mk hacc
            clear huc hr3w hr6w hr6x hr10t hr10 hb10 hk10 hpc hpb hsw hub hub2 hb39 hbw9 HL9 HR6 HC6 hacc hln
            go_wp2_with fail
            refine HPC.out.mono ?_
            rintro e w11 ⟨v11, rfl, hr11, hb11, hk11⟩
            have HR11 := Aside0.mk (Kd.R_mono (ok' := fun _ => True) hr11 (fun _ _ => trivial)); have HB11 := Aside0.mk hb11
            clear hr11 hb11 hk11 HPC
            obtain ⟨A11, c11, hv11⟩ := Kd.R_slice HR11.out
            subst hv11
            have hsz : (strOfNums pk).size ≤ 524289 := by rw [strOfNums_size]; exact HPL.out
            have HSZ := Aside0.mk hsz
            clear hsz
            go_wp2_with (first
              | (at_builtin; refine Kd.R_append (Kd.int .u8) (w0 := w) w.heap.size rfl (.tmp 76) (.tmp 79) 36 5 (.int .u8 0) 1 rfl Try.underlying36 info5 rfl (by decide) (by omega) (.slice A11 acc.length c11) acc ((wv : Int) % 256) [.int .u8 ((wv : Int) % 256)] (fun _ => True) (fun _ => False) rfl rfl rfl (fun _ hk => hk.elim) (fun _ _ => trivial) HR11.out HB11.out HB11.out.size (by have := HLN.out; omega) ?_; intro v12 w12 ho hb hgr hat2; (have HR12 := Aside0.mk ho); (have HB12 := Aside0.mk hb); clear hat2 hgr ho hb)
              | (at_builtin; refine append_str_R (w0 := w) w.heap.size rfl _ _ 36 9 5 rfl Try.underlying36 Try.underlying9 info5 v12 (acc ++ [(wv : Int) % 256]) (strOfNums pk) rfl rfl HR12.out HB12.out HB12.out.size (by rw [List.length_append, List.length_singleton]; have := HLN.out; have := HSZ.out; omega) ?_; intro v13 w13 ho hb hgr; (have HR13 := Aside0.mk ho); (have HB13 := Aside0.mk hb); clear hgr ho hb))
            rw [own_string Try.underlying36 Try.underlying5 Try.underlying9 (Kd.own_of_R HR13.out)]
            go_wp2_with fail
            go_ret2
            have hfin : strOfNums ([1] ++ uintB l0.length ++ dictB l0) = strOfNums (acc ++ [(wv : Int) % 256] ++ bytesOf (strOfNums pk)) := by
              unfold dictB
              rw [HWS.out, HNM.out, HWV.out, HPKD.out, ← HACC.out]
              simp only [List.append_assoc]
            simp only [List.append_assoc, List.cons_append, List.nil_append] at hfin
            rw [hfin]
            exact ⟨rfl, HB13.out⟩
end Go.Proofs.Ytimjafjicnlhfaa.A
