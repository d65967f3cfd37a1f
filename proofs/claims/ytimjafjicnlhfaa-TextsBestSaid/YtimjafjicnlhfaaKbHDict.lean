/- The reference's dictionary: each new text is put where it belongs. -/
import Derived.Test.YtimjafjicnlhfaaKbAx0
import Derived.Test.YtimjafjicnlhfaaKbAx7
import Derived.Test.YtimjafjicnlhfaaKbHRefD
import Derived.Deep.RegionHeld3
import Derived.Deep.CutBlock
import Derived.Deep.DeepCutAuto
import Derived.BigQuiet
namespace Go.Proofs.Ytimjafjicnlhfaa.A
open Go.RowKit Go.Proofs.YtimjafjicnlhfaaW.PrintWords Go.Proofs.YtimjafjicnlhfaaW.PrintLast Go.Proofs.YtimjafjicnlhfaaW.PrintMore
set_option linter.unusedVariables false
set_option linter.unusedSimpArgs false
theorem AB_drew {B : Nat} {w W : World} (h : Aside0 (Below B w W)) : Aside0 (Below B w W.drew) := ⟨h.out.drew⟩
theorem AB_alloc {w W : World} {o : Obj} (h : Aside0 (Below w.heap.size w W)) : Aside0 (Below w.heap.size w (W.alloc o)) := ⟨h.out.alloc h.out.size o⟩
theorem oneStr {W : World} {b : Nat} {x : ByteArray} (hb : W.heap[b]? = some (.cells #[.string x] 9 (0, 0))) : Kd.C Kd.string W (some ⟨b, 0, none⟩) 1 [x] :=
  (Kd.R_reads' (show Kd.R Kd.string 9 W b (fun _ => True) (.slice (some ⟨b, 0, none⟩) 1 1) [x] from Kd.R_of_own (h1 := fun _ => rfl) ⟨rfl, .inr ⟨b, 1, #[.string x], rfl, Nat.le_refl _, hb, Nat.le_refl _, by decide, rfl, rfl⟩⟩ (fun _ _ => trivial))).2.2
theorem C_takeN {α : Type} {d : Kd α} {w : World} {A : Option Addr} {n : Nat} {l : List α} (h : Kd.C d w A n l) (k : Nat) (hk : k ≤ n) : Kd.C d w A k (l.take k) := by
  have hn := h.1
  subst hn
  have h2 := Kd.C_take h hk
  rwa [List.length_take, Nat.min_eq_left hk] at h2
theorem C_dropN {w : World} {A : Option Addr} {n c : Nat} {l : List ByteArray} (h : Kd.C Kd.string w A n l) (hc : n ≤ c) (k : Nat) (hk : k ≤ n) : Kd.C Kd.string w (if c = k then A else A.map (·.add (k * 1))) (n - k) (l.drop k) := by
  have hn := h.1
  subst hn
  have h2 := Kd.C_drop (c := c) h hk hc
  rwa [List.length_drop] at h2
theorem aheadN_at (out : List ByteArray) (x : ByteArray) (k : Nat) (h : ∀ j (hj : j < out.length), j < k → out[j].data.toList < x.data.toList) (hk : k ≤ out.length) (he : k = out.length ∨ ∃ hk' : k < out.length, ¬ out[k].data.toList < x.data.toList) : aheadN out x = k := by
  induction out generalizing k with
  | nil => simp at hk; subst hk; rfl
  | cons z out ih =>
    unfold aheadN at ih ⊢
    cases k with
    | zero =>
      rcases he with he | ⟨hk', he⟩
      · simp at he
      · rw [List.takeWhile_cons_of_neg (by simpa using he)]; rfl
    | succ k =>
      have h0 := h 0 (by simp) (by omega)
      rw [List.takeWhile_cons_of_pos (by simpa using h0), List.length_cons, ih k (fun j hj hjk => h (j + 1) (by rw [List.length_cons]; omega) (by omega)) (by rw [List.length_cons] at hk; omega)]
      rcases he with he | ⟨hk', he⟩
      · exact .inl (by simpa using he)
      · exact .inr ⟨by rw [List.length_cons] at hk'; omega, he⟩
def tithebarnref05_Dictionary.f (l : List ByteArray) : Option (List ByteArray) := if l.length ≤ 65536 ∧ ∀ s ∈ l, s.size ≤ 64 then some (dictP l) else none
theorem dictP_len (l : List ByteArray) : (dictP l).length ≤ l.length := by rw [dictP_words]; exact wordsP_le l
theorem dictP_mem (l : List ByteArray) (y : ByteArray) (h : y ∈ dictP l) : y ∈ l := by rw [dictP_words] at h; exact (mem_words l y).1 h
set_option maxHeartbeats 16000000 in
set_option maxRecDepth 100000 in
theorem tithebarnref05_Dictionary.calls (A0 : Option Addr) (c0 : Nat) (l0 : List ByteArray) (r : List ByteArray) (w : World) (hr0 : Kd.C Kd.string w A0 l0.length l0) (hc0 : l0.length ≤ c0) (h : tithebarnref05_Dictionary.f l0 = some r) :
    Calls Try.prog 27 #[.slice A0 l0.length c0] w fun e w' => ∃ v : Value, e = .returned v ∧ Kd.R Kd.string 9 w' w.heap.size (fun _ => True) v r ∧ Below w.heap.size w w' := by
  unfold tithebarnref05_Dictionary.f at h
  by_cases hb : l0.length ≤ 65536 ∧ ∀ s ∈ l0, s.size ≤ 64
  rotate_left
  · rw [if_neg hb] at h
    exact absurd h (by simp)
  rw [if_pos hb] at h
  have h := Option.some.inj h
  subst h
  obtain ⟨hn, hs⟩ := hb
  have HS := Aside0.mk hs; have HR := Aside0.mk hr0
  have HL0 := Aside0.mk (Below.refl w.heap.size w)
  clear hs hr0
  go_enter Try.func27, Try.ntmps27
  go_wp2_with fail
  go_loopg [3, 4] l0.length (fun gg s3 s4 wr => ∃ i : Nat, i ≤ l0.length ∧ l0.length - i ≤ gg ∧ s4 = .int .i64 i ∧ Aside0 (Below w.heap.size w wr) ∧ Aside0 (Kd.R Kd.string 9 wr w.heap.size (fun _ => True) s3 (dictP (l0.take i))))
  case atStart => exact ⟨0, by omega, by omega, rfl, HL0, ⟨Kd.R_nil _ _ _ _ _⟩⟩
  case round =>
    clear HL0
    rename World => w1
    obtain ⟨i, hi, hgg, rfl, HLw, HRo⟩ := hrel
    by_cases hlt : i < l0.length
    · have hltn : decide (i < l0.length) = true := decide_eq_true hlt
      have hltz : decide ((i : Int) < (l0.length : Int)) = true := decide_eq_true (by omega)
      have hiT : ((i : Int) < (l0.length : Int)) = True := eq_true (by omega)
      have hi0 : ((0 : Int) ≤ (i : Int)) = True := eq_true (by omega)
      have hpi : IntKind.i64.wrap ((i : Int) + 1) = (i : Int) + 1 := IntWalk.i64_in _ (by omega)
      obtain ⟨ad, e, hx⟩ := Kd.at_string HR.out (i : Int) (by omega) (by omega)
      cases e
      replace hx := (HLw.out.cell (World.block_lt_of_cell? w _ hx)).trans hx
      rw [Int.toNat_natCast] at hx
      have hxe : rdOf ByteArray.empty l0 (i : Int) = l0[i] := by simp [rdOf, hlt]
      have htk : dictP (l0.take (i + 1)) = dictStep (dictP (l0.take i)) (rdOf ByteArray.empty l0 (i : Int)) := by
        rw [List.take_add_one, List.getElem?_eq_getElem hlt, hxe]
        exact dictP_snoc _ _
      have hol : (dictP (l0.take i)).length ≤ 65536 := Nat.le_trans (dictP_len _) (by rw [List.length_take]; omega)
      have hos : ∀ y ∈ dictP (l0.take i), y.size ≤ 64 := fun y hy => HS.out y (List.mem_of_mem_take (dictP_mem _ y hy))
      have HTK := Aside0.mk htk; have HOS := Aside0.mk hos; have HOL := Aside0.mk hol; have HIJ := Aside0.mk (And.intro hi (And.intro hgg hlt))
      generalize rdOf ByteArray.empty l0 (i : Int) = x at *
      generalize hout : dictP (l0.take i) = out at *
      clear htk hos hol hi hgg hlt hxe hout
      obtain ⟨A3, c3, hv3, hc3, hC3⟩ := Kd.R_reads HRo.out
      subst hv3
      obtain ⟨L, hL⟩ : ∃ L, L = out.length := ⟨_, rfl⟩
      have hac := fun W (hb : Below w.heap.size w W) (hb2 : Below w1.heap.size w1 W) => tithebarnref05_at.calls 100000 A3 c3 out x (atP out x) W (Kd.C_below hC3 hb2) hc3 (at_f 100000 out x (by have := HOL.out; omega) (by have := HOL.out; omega))
      rw [← hL] at hac hC3 hc3 ⊢
      have HAC := Aside0.mk hac; have HC3 := Aside0.mk hC3; have HCC := Aside0.mk hc3; have HLE := Aside0.mk hL
      obtain ⟨pp, hpp⟩ : ∃ pp, pp = atP out x := ⟨_, rfl⟩
      rw [← hpp] at HAC
      have HPP := Aside0.mk hpp
      clear hac hC3 hc3 hL hpp
      by_cases hat : 0 ≤ pp
      · have g1 : decide (0 ≤ pp) = true := decide_eq_true hat
        have HAT := Aside0.mk hat
        clear hat
        go_wp2_with fail
        refine (HAC.out _ HLw.out (Below.refl _ _)).mono ?_
        rintro e w3 ⟨rfl, ⟨q3, rfl⟩⟩
        have HL3 := Aside0.mk (pw_below_drewN HLw.out q3)
        have HR3 := Aside0.mk (Kd.R_drewN HRo.out q3)
        clear HLw HRo HC3 HAC
        go_wp2_with fail
        go_roundg (l0.length - (i + 1))
        case measure => have := HIJ.out; omega
        case rel =>
          refine ⟨i + 1, by have := HIJ.out; omega, by have := HIJ.out; omega, by push_cast; rfl, HL3, ⟨?_⟩⟩
          rw [HTK.out, dictStep, if_pos (by rw [← HPP.out]; exact HAT.out), HLE.out]
          exact HR3.out
      · have g1 : decide (0 ≤ pp) = false := decide_eq_false hat
        have HAT := Aside0.mk hat
        clear hat
        go_wp2_with fail
        refine (HAC.out _ HLw.out (Below.refl _ _)).mono ?_
        rintro e w3 ⟨rfl, ⟨q3, rfl⟩⟩
        have HL3 := Aside0.mk (pw_below_drewN (Below.refl w1.heap.size w1) q3)
        generalize w1.drewN q3 = w3 at *
        clear HAC
        go_upto_block 2 with fail
        go_cut [5] (fun s5 wc => ∃ k : Nat, k ≤ L ∧ s5 = .int .i64 k ∧ Aside0 (aheadN out x = k) ∧ Aside0 (Below w1.heap.size w1 wc))
        case first =>
          go_wp2_with fail
          go_loopg [5] L (fun gg s5 wi => ∃ k : Nat, k ≤ L ∧ L - k ≤ gg ∧ s5 = .int .i64 k ∧ Aside0 (Below w1.heap.size w1 wi) ∧ Aside0 (∀ j (hj : j < out.length), j < k → out[j].data.toList < x.data.toList))
          case atStart => exact ⟨0, by omega, by omega, rfl, HL3, ⟨fun j hj h0 => absurd h0 (Nat.not_lt_zero _)⟩⟩
          case round =>
            clear HL3
            obtain ⟨k, hk, hgk, rfl, HBW, HJ⟩ := hrel
            by_cases hkl : k < L
            · have hko : k < out.length := by rw [← HLE.out]; exact hkl
              obtain ⟨a3, e, hy⟩ := Kd.at_string (Kd.C_below HC3.out HBW.out) (k : Int) (by omega) (by have := HLE.out; omega)
              cases e
              rw [Int.toNat_natCast] at hy
              have hyx := (HBW.out.cell (World.block_lt_of_cell? w1 _ hx)).trans hx
              have hye : rdOf ByteArray.empty out (k : Int) = out[k] := by simp [rdOf, hko]
              have hah := fun W => tithebarnref05_ahead.calls 100000 (rdOf ByteArray.empty out (k : Int)) x _ W (ahead_f 100000 _ x (by rw [hye]; have := HOS.out _ (List.getElem_mem hko); unfold Fit; omega) (by rw [hye]; have := HOS.out _ (List.getElem_mem hko); omega))
              obtain ⟨bb, hb0⟩ : ∃ b, b = decide ((rdOf ByteArray.empty out (k : Int)).data.toList < x.data.toList) := ⟨_, rfl⟩
              rw [← hb0] at hah
              have hb1 : bb = decide (out[k].data.toList < x.data.toList) := by rw [hb0, hye]
              have HAH := Aside0.mk hah; have HKB := Aside0.mk hb1; have HKK := Aside0.mk (And.intro hk (And.intro hgk hkl))
              clear hah hb0 hb1 hye hk hgk
              generalize rdOf ByteArray.empty out (k : Int) = y at *
              have hd0 : decide ((k : Int) < (L : Int)) = true := decide_eq_true (by omega)
              have b5 : 0 ≤ (k : Int) := by omega
              have b6 : (k : Int) < (L : Int) := by omega
              have HZ := Aside0.mk (Below.refl wr.heap.size wr)
              go_wp2_with fail
              go_region_held3 (fun w' => w'.cell? (a3.add k) = some (.string y) ∧ w'.cell? (ad.add i) = some (.string x) ∧ Aside0 (Below wr.heap.size wr w'))
                ((repeat' apply And.intro) <;> (first | assumption | exact AB_drew (by assumption) | exact pw_cell_below HB2.out (by assumption) | exact HB2 | go_keep))
                (first | (go_at_call 55; refine (HAH.out _).mono ?_; rintro e w2 ⟨rfl, hb'⟩; (have HB2 := Aside0.mk ((below_drew HZ.out).trans (hb'.mono ((below_drew HZ.out).size)))); clear hb'))
              have HBN := Aside0.mk (HBW.out.trans (HB2.out.mono HBW.out.size))
              have hpk : IntKind.i64.wrap ((k : Int) + 1) = (k : Int) + 1 := IntWalk.i64_in _ (by have := HOL.out; have := HLE.out; omega)
              clear hd0 b5 b6 hy hyx HZ
              cases hbb : bb with
              | true =>
                have HJ' : Aside0 (∀ j (hj : j < out.length), j < k + 1 → out[j].data.toList < x.data.toList) := ⟨fun j hj hjk => by
                  rcases Nat.lt_or_ge j k with h1 | h1
                  · exact HJ.out j hj h1
                  · obtain rfl : j = k := by omega
                    exact of_decide_eq_true (HKB.out.symm.trans hbb)⟩
                subst hbb
                go_wp2_with fail
                go_roundg (L - (k + 1))
                case measure => have := HKK.out; omega
                case rel => exact ⟨k + 1, by have := HKK.out; omega, by have := HKK.out; omega, by push_cast; rfl, HBN, HJ'⟩
              | false =>
                have HEX : Aside0 (aheadN out x = k) := ⟨aheadN_at out x k HJ.out (Nat.le_of_lt hko) (.inr ⟨hko, of_decide_eq_false (HKB.out.symm.trans hbb)⟩)⟩
                subst hbb
                go_wp2_with fail
                go_meet
                case rel => exact ⟨k, by have := HKK.out; omega, rfl, HEX, HBN⟩
            · obtain rfl : k = L := by omega
              have HEX : Aside0 (aheadN out x = k) := ⟨aheadN_at out x k HJ.out (by rw [HLE.out]; exact Nat.le_refl _) (.inl HLE.out)⟩
              have hd0 : decide ((k : Int) < (k : Int)) = false := decide_eq_false (by omega)
              go_wp2_with fail
              go_quiet (fail)
              go_wp2_with fail
              go_meet
              case rel => exact ⟨k, Nat.le_refl _, rfl, HEX, ⟨pw_below_drewN HBW.out _⟩⟩
        case rest =>
          obtain ⟨k, hk, rfl, HAN, HBC⟩ := hcut
          obtain ⟨W0, hW0⟩ : ∃ W0, W0 = wc := ⟨_, rfl⟩
          have HBT := HBC
          rw [← hW0] at HBT ⊢
          have hcc := HCC.out
          obtain ⟨i0, hi0', _, hsz0, _⟩ := info_parts info9
          have cu1 := cut_to (P := Try.prog) 22 9 .i64 Try.underlying22 hi0' A3 L c3 (k : Int) (by omega) (by omega) hcc
          have cu2 := cut_from (P := Try.prog) 22 9 .i64 Try.underlying22 hi0' 1 hsz0 A3 L c3 (k : Int) (by omega) (by omega)
          simp only [Int.toNat_natCast] at cu1 cu2
          obtain ⟨m, hm⟩ : ∃ m, m = L - k := ⟨_, rfl⟩
          obtain ⟨c2, hc2⟩ : ∃ c2, c2 = c3 - k := ⟨_, rfl⟩
          rw [← hm, ← hc2] at cu2
          obtain ⟨A2, hA2⟩ : ∃ A2, A2 = (if c3 = k then A3 else A3.map (·.add (k * 1))) := ⟨_, rfl⟩
          rw [← hA2] at cu2
          have HCT := Aside0.mk (C_takeN HC3.out k hk)
          have HCD : Aside0 (Kd.C Kd.string w1 A2 m (out.drop k)) := ⟨by rw [hA2, hm]; exact C_dropN HC3.out hcc k hk⟩
          have z0 := (HBT.out.cell (World.block_lt_of_cell? w1 _ hx)).trans hx
          have HBZ := Aside0.mk (Below.refl W0.heap.size W0)
          have HB3 := Aside0.mk (below_drew HBZ.out)
          have HLL : Aside0 (L ≤ 65536) := ⟨by rw [HLE.out]; exact HOL.out⟩
          have HKL := Aside0.mk hk; have HM := Aside0.mk hm
          have q0 : 0 ≤ (k : Int) := by omega
          have q1 : (k : Int) ≤ (L : Int) := by omega
          have q2 : (k : Int) ≤ (c3 : Int) := by omega
          clear hA2 hW0 hcc hm hc2 hk HBC hx hi0' hsz0
          go_wp2_with fail
          go_region_held3 (fun w' => w'.cell? (ad.add i) = some (.string x) ∧ Aside0 (Below W0.heap.size W0 w'))
            ((repeat' apply And.intro) <;> (first | assumption | exact AB_drew (by assumption) | exact pw_cell_below HB3.out (by assumption) | exact HB3 | exact AB_alloc HB3 | go_keep))
            (first
              | (refine Kd.R_append_rows_step Kd.string (Rr := Kd.string.K _) (w0 := W0) W0.heap.size (by rfl) (.const (.slice none 0 0)) (.tmp 38) 22 9 (.string ⟨#[]⟩) 16 rfl Try.underlying22 info9 rfl (by decide) (by omega) (.slice none 0 0) [] (out.take k) A3 k c3 (fun _ => True) (fun _ => False) rfl rfl (Kd.R_nil _ _ _ _ _) (Kd.C_below HCT.out (HBT.out.trans (Below.mono (by first | exact HB3.out | exact HB3.out.alloc HB3.out.size _) HBT.out.size))) (fun _ _ h => h) (fun _ h => h.elim) (fun _ _ => trivial) (by first | exact HB3.out | exact HB3.out.alloc HB3.out.size _) (Below.size (by first | exact HB3.out | exact HB3.out.alloc HB3.out.size _)) (by simp only [List.length_nil]; have := HLL.out; have := HKL.out; omega) ?_; intro v2 w3 hr2 hb3 hg3 _; (have HR2 := Aside0.mk hr2); (have HG3 := Aside0.mk hg3); clear HB3; (have HB3 := Aside0.mk hb3); clear hr2 hb3 hg3)
              | (refine Kd.R_append_step Kd.string (w0 := W0) W0.heap.size (by rfl) (.tmp 39) (.tmp 44) 22 9 (.string ⟨#[]⟩) 16 rfl Try.underlying22 info9 rfl (by decide) (by omega) v2 _ x [.string x] (fun _ => True) (fun _ => False) rfl rfl rfl (fun _ h => h.elim) (fun _ _ => trivial) HR2.out HB3.out HB3.out.size (by simp only [List.nil_append, List.length_append, List.length_take, List.length_singleton]; have := HLL.out; have := HKL.out; have := HM.out; omega) ?_; intro v4 w4 hr4 hb4 hg4 _; (have HR4 := Aside0.mk hr4); clear HB3 HR2; (have HB3 := Aside0.mk hb4); clear hr4 hb4 hg4)
              | (refine Kd.R_append_rows_step Kd.string (Rr := Kd.string.K _) (w0 := W0) W0.heap.size (by rfl) (.tmp 39) (.tmp 44) 22 9 (.string ⟨#[]⟩) 16 rfl Try.underlying22 info9 rfl (by decide) (by omega) v2 _ [x] (some ⟨W0.heap.size, 0, none⟩) 1 1 (fun _ => True) (fun _ => False) rfl rfl HR2.out (oneStr ((HG3.out.block _ (by simp) (by simp [Value.ownBlock])).trans (MapKept.heap_alloc W0.drew _).1)) (fun _ _ h => h) (fun _ h => h.elim) (fun _ _ => trivial) HB3.out HB3.out.size (by simp only [List.nil_append, List.length_append, List.length_take, List.length_singleton]; have := HLL.out; have := HKL.out; have := HM.out; omega) ?_; intro v4 w4 hr4 hb4 hg4 _; (have HR4 := Aside0.mk hr4); clear HB3 HR2; (have HB3 := Aside0.mk hb4); clear hr4 hb4 hg4)
              | (refine Kd.R_append_rows_step Kd.string (Rr := Kd.string.K _) (w0 := W0) W0.heap.size (by rfl) (.tmp 45) (.tmp 48) 22 9 (.string ⟨#[]⟩) 16 rfl Try.underlying22 info9 rfl (by decide) (by omega) v4 _ (out.drop k) A2 m c2 (fun _ => True) (fun _ => False) rfl rfl HR4.out (Kd.C_below HCD.out (HBT.out.trans (HB3.out.mono HBT.out.size))) (fun _ _ h => h) (fun _ h => h.elim) (fun _ _ => trivial) HB3.out HB3.out.size (by simp only [List.nil_append, List.length_append, List.length_take, List.length_singleton]; have := HLL.out; have := HKL.out; have := HM.out; omega) ?_; intro v5 w5 hr5 hb5 hg5 _; (have HR5 := Aside0.mk hr5); clear HB3 HR4; (have HB3 := Aside0.mk hb5); clear hr5 hb5 hg5))
          all_goals (
            have s1 := HLw.out.size
            have s2 := HBT.out.size
            have s3 := Nat.le_trans s1 s2
            have HRF : Aside0 (Kd.R Kd.string 9 w5 w.heap.size (fun _ => True) v5 (dictP (l0.take (i + 1)))) := ⟨by
              rw [HTK.out, dictStep, if_neg (by have h1 := HAT.out; have h2 := HPP.out; omega), HAN.out]
              exact Kd.R_lower HR5.out s3⟩
            have HBF := Aside0.mk ((HLw.out.trans (HBT.out.mono s1)).trans (HB3.out.mono s3))
            clear s1 s2 s3 cu1 cu2 z0 HR5 HR HC3 HCT HCD
            go_wp2_with fail
            go_roundg (l0.length - (i + 1))
            case measure => have := HIJ.out; omega
            case rel => exact ⟨i + 1, by have := HIJ.out; omega, by have := HIJ.out; omega, by push_cast; rfl, HBF, HRF⟩)
    · obtain rfl : i = l0.length := by omega
      have hltn : decide (l0.length < l0.length) = false := decide_eq_false (by omega)
      have hltz : decide ((l0.length : Int) < (l0.length : Int)) = false := decide_eq_false (by omega)
      rw [List.take_length] at HRo
      go_wp2_with fail
      go_ret
      exact ⟨_, rfl, HRo.out, HLw.out⟩
end Go.Proofs.Ytimjafjicnlhfaa.A
