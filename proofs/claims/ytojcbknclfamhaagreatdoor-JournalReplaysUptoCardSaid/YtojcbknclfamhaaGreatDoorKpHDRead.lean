/- deeds.Read: the deed that bytes are. -/
import Derived.Test.YtojcbknclfamhaaGreatDoorKpAx0
import Derived.Test.YtojcbknclfamhaaGreatDoorKpAx29
import Derived.Test.YtojcbknclfamhaaGreatDoorKpAx6
import Derived.Test.YtojcbknclfamhaaGreatDoorKpHRdr
import Derived.Test.YtojcbknclfamhaaGreatDoorKpHSS
import Derived.Deep.RegionLaw
namespace Go.Proofs.YtojcbknclfamhaaGreatDoor.A
open Go.RowKit Go.Proofs.YtojcbknclfamhaaGreatDoorW.PrintWords Go.Proofs.YtojcbknclfamhaaGreatDoorW.PrintLast Go.Proofs.YtojcbknclfamhaaGreatDoorW.PrintMore
set_option linter.unusedVariables false
set_option linter.unusedSimpArgs false
def rowsF : List S44 → List S46 → ByteArray → Int → Bool → Option (List S46 × ByteArray × Int × Bool)
  | [], acc, s, e, odd => some (acc, s, e, odd)
  | c :: cs, acc, s, e, odd => if (!odd && (e == 0)) = true then (valueF s e odd c).bind fun r => rowsF cs (acc ++ [r.1]) r.2.1 r.2.2.1 r.2.2.2 else some (acc, s, e, odd)
def deeds_Read.f (l : List S44) (text : ByteArray) : Option (Bool × List S46 × Int) :=
  if rightC l = false then some (false, [], 4) else
  (truthF text 0 false).bind fun t => (rowsF (if t.1 = true then l.take 1 else l) [] t.2.1 t.2.2.1 t.2.2.2).bind fun r =>
    if r.2.2.2 = true then some (false, [], 4) else (tally_Cursor_Done.f r.2.1 r.2.2.1).bind fun d => if d.1 = 0 then some (t.1, r.1, 0) else (tally_Cursor_Done.f d.2.1 d.2.2).bind fun d2 => some (false, [], d2.1)
theorem R_keep2 {W W1 : World} {rb g base : Nat} {V : Value} {xs : List S46} {c1 c2 : Array Value} (h : Kd.R k46 46 W base (fun _ => True) V xs) (hk : Keep2 W W1 rb g) (h1 : W.heap[rb]? = some (.cells c1 81 (0, 0))) (h2 : W.heap[g]? = some (.cells c2 119 (0, 0))) : Kd.R k46 46 W1 base (fun _ => True) V xs := by
  have n1 := Kd.R_ne h h1 (by decide)
  have n2 := Kd.R_ne h h2 (by decide)
  refine Kd.R_mono (Kd.R_kept (S := fun k => k = rb ∨ k = g) (Kd.R_tight rfl h) ⟨hk.1, fun i hi hs => hk.2 i hi (fun e => hs (.inl e)) (fun e => hs (.inr e))⟩ ?_) (fun _ _ => trivial)
  intro k ho hs
  rcases hs with rfl | rfl
  · exact n1 ho
  · exact n2 ho
set_option maxHeartbeats 16000000 in
set_option maxRecDepth 100000 in
theorem deeds_Read.calls (A0 : Option Addr) (c0 : Nat) (l0 : List S44) (a1 : ByteArray) (r1 : Bool) (r2 : List S46) (r3 : Int) (w : World) (hr0 : Kd.C k44 w A0 l0.length l0) (hc0 : l0.length ≤ c0) (h : deeds_Read.f l0 a1 = some (r1, r2, r3)) :
    Calls Tryz.prog 18 #[.slice A0 l0.length c0, .string a1] w fun e w' => ∃ v : Value, e = .returned (.tuple #[.agg #[.bool r1, v], .int .i64 r3]) ∧ Kd.R k46 46 w' w.heap.size (fun _ => True) v r2 ∧ Below w.heap.size w w' := by
  have hu := Tryz.underlying26
  have hu2 := Tryz.underlying44
  have hu3 := Tryz.underlying46
  have hu4 := Tryz.underlying81
  have HR := Aside0.mk hr0
  have hbig := hr0.2.1
  unfold deeds_Read.f at h
  have hb1 := below_alloc (Below.refl _ w) (.cells #[.bool false, .slice none 0 0] 26)
  have hk1 := blk_new w (.cells #[.bool false, .slice none 0 0] 26)
  have HB1 := Aside0.mk hb1; have K4 := Aside0.mk hk1
  clear hr0 hb1 hk1
  by_cases hrt : rightC l0 = false
  · rw [if_pos hrt] at h
    have h := Option.some.inj h
    simp only [Prod.mk.injEq] at h
    obtain ⟨rfl, rfl, rfl⟩ := h
    go_enter Tryz.func18, Tryz.ntmps18
    go_wp2_with fail
    generalize w.alloc (.cells #[.bool false, .slice none 0 0] 26) = w1 at *
    refine (kinds_Right.calls A0 c0 l0 false w1 (Kd.C_below HR.out HB1.out) hc0 (by unfold kinds_Right.f; rw [hrt])).mono ?_
    rintro e w2 ⟨rfl, hb2⟩
    have HB2 := Aside0.mk (HB1.out.trans (hb2.mono HB1.out.size))
    have hk := (hb2.block _ (Array.getElem?_eq_some_iff.1 K4.out).1).trans K4.out
    have q0 := (blk_cell hk 0).trans rfl
    have q1 := (blk_cell hk 1).trans rfl
    have z0 := blk_frozen hk 0
    have z1 := blk_frozen hk 1
    clear hb2 hk
    go_wp2_with fail
    refine bodyPost_ret (v := .tuple #[.agg #[.bool false, .slice none 0 0], .int .i64 4]) (by simp [results, Tryz.results18, go_sem, q0, q1]) rfl ⟨_, rfl, Kd.R_nil _ _ _ _ _, ?_⟩
    iterate 2 refine Below.setCell ?_ (show w.heap.size ≤ w.heap.size from Nat.le_refl _) _
    exact HB2.out
  rw [if_neg hrt] at h
  have hrt1 : rightC l0 = true := by cases hx : rightC l0; exact absurd hx hrt; rfl
  obtain ⟨⟨gone, s1, e1, odd1⟩, ht, h⟩ := Option.bind_eq_some_iff.mp h
  obtain ⟨⟨rows, s2, e2, odd2⟩, hrw, h⟩ := Option.bind_eq_some_iff.mp h
  have HT := Aside0.mk ht; have HRW := Aside0.mk hrw; have HEND := Aside0.mk h
  have HRT := Aside0.mk hrt1
  clear ht hrw h hrt hrt1
  go_enter Tryz.func18, Tryz.ntmps18
  go_wp2_with fail
  generalize w.alloc (.cells #[.bool false, .slice none 0 0] 26) = w1 at *
  refine (kinds_Right.calls A0 c0 l0 true w1 (Kd.C_below HR.out HB1.out) hc0 (by unfold kinds_Right.f; rw [HRT.out])).mono ?_
  rintro e w2 ⟨rfl, hb2⟩
  have HB2 := Aside0.mk (HB1.out.trans (hb2.mono HB1.out.size))
  have K4b := Aside0.mk ((hb2.block _ (Array.getElem?_eq_some_iff.1 K4.out).1).trans K4.out)
  clear hb2 K4 HB1
  go_wp2_with fail
  refine (tally_From.calls a1 a1 0 w w2 HB2.out rfl).mono ?_
  rintro e w3 ⟨g, rfl, hS3, hB3, hB23⟩
  have K4c := Aside0.mk ((hB23.block _ (Array.getElem?_eq_some_iff.1 K4b.out).1).trans K4b.out)
  have hk6 := blk_new w3 (.cells #[.pointer (some ⟨g, 0, none⟩), .bool false] 81)
  have hb6 := below_alloc (Below.refl _ w3) (.cells #[.pointer (some ⟨g, 0, none⟩), .bool false] 81)
  have K4d := Aside0.mk ((hb6.block _ (Array.getElem?_eq_some_iff.1 K4c.out).1).trans K4c.out)
  have hglt := (Array.getElem?_eq_some_iff.1 hS3.1).1
  have hrd : IsRdr w (w3.alloc (.cells #[.pointer (some ⟨g, 0, none⟩), .bool false] 81)) w3.heap.size g a1 0 false := ⟨hk6, hB3.size, by omega, hS3.below hb6⟩
  have HI := Aside0.mk hrd
  have HB4 := Aside0.mk (hB3.trans (hb6.mono hB3.size))
  have N4 : Aside0 (w.heap.size ≠ w3.heap.size ∧ w.heap.size ≠ g) := ⟨by have := (Array.getElem?_eq_some_iff.1 K4c.out).1; omega, fun e => by
    have h1 := K4c.out; rw [e, hS3.1] at h1; simp at h1⟩
  clear hS3 hB3 hB23 hk6 hb6 hglt hrd K4c K4b HB2
  go_wp2_with fail
  generalize w3.alloc (.cells #[.pointer (some ⟨g, 0, none⟩), .bool false] 81) = w4 at *
  generalize w3.heap.size = rb at *
  refine (truth.calls rb g a1 0 false gone s1 e1 odd1 w w4 HI.out HB4.out HT.out).mono ?_
  rintro x w5 ⟨rfl, hS5⟩
  have K4e := Aside0.mk ((hS5.2.2.2 _ (Array.getElem?_eq_some_iff.1 K4d.out).1 N4.out.1 N4.out.2).trans K4d.out)
  have HI5 := Aside0.mk hS5.1; have HB5 := Aside0.mk hS5.2.1
  have hl6 : l0.length ≤ 6 := by have := HRT.out; unfold rightC at this; simp at this; omega
  have hl0 : 0 < l0.length := by have := HRT.out; unfold rightC at this; simp at this; omega
  have k7 := blk_new w5 (.cells #[.bool gone, .slice none 0 0] 26)
  have b7 := below_alloc (Below.refl _ w5) (.cells #[.bool gone, .slice none 0 0] 26)
  have K7 := Aside0.mk k7
  have HI6 := Aside0.mk (HI5.out.below b7)
  have HB6 := Aside0.mk (HB5.out.trans (b7.mono HB5.out.size))
  have K4f := Aside0.mk ((b7.block _ (Array.getElem?_eq_some_iff.1 K4e.out).1).trans K4e.out)
  have hr7 := (Array.getElem?_eq_some_iff.1 HI5.out.1).1
  have hg7 := (Array.getElem?_eq_some_iff.1 HI5.out.2.2.2.1).1
  have h47 := (Array.getElem?_eq_some_iff.1 K4e.out).1
  have N7 : Aside0 (w5.heap.size ≠ rb ∧ w5.heap.size ≠ g ∧ w.heap.size < w5.heap.size) := ⟨by omega, by omega, h47⟩
  clear hS5 K4d HI HB4 HT k7 b7 hr7 hg7 h47 HI5 HB5 K4e
  obtain ⟨L, hL⟩ : ∃ L, L = (if gone = true then l0.take 1 else l0) := ⟨_, rfl⟩
  rw [← hL] at HRW
  have hLn : L.length = (if gone = true then 1 else l0.length) := by
    rw [hL]
    split
    · rw [List.length_take]; omega
    · rfl
  have hLb : L.length ≤ l0.length := by
    rw [hL]
    split
    · rw [List.length_take]; omega
    · exact Nat.le_refl _
  have hLC : Kd.C k44 w A0 L.length L := by
    rw [hL]; split
    · have := Kd.C_take HR.out (show 1 ≤ l0.length by omega); exact this
    · exact HR.out
  have HLC := Aside0.mk hLC; have HLN := Aside0.mk hLn; have HLB := Aside0.mk hLb
  have e1x : ((1 : Int) ≤ (c0 : Int)) = True := eq_true (by omega)
  have e2x : (1 ≤ c0) = True := eq_true (by omega)
  clear hL hLn hLb hLC
  go_upto_if 22 with (fail)
  go_cut [0] (fun s0 wc => s0 = .slice A0 L.length c0 ∧ Aside0 (IsRdr w wc rb g s1 e1 odd1) ∧ Aside0 (Below w.heap.size w wc) ∧ Aside0 (wc.heap[w.heap.size]? = some (.cells #[.bool false, .slice none 0 0] 26 (0, 0))) ∧ Aside0 (wc.heap[w5.heap.size]? = some (.cells #[.bool gone, .slice none 0 0] 26 (0, 0))))
  case first =>
    cases gone with
    | true =>
      have hln := HLN.out
      rw [if_pos (rfl : true = true)] at hln
      have HLL := Aside0.mk hln
      clear hln
      go_wp2_with fail
      go_meet
      exact ⟨by rw [HLL.out], HI6, HB6, K4f, K7⟩
    | false =>
      have hln := HLN.out
      rw [if_neg (by decide : ¬ (false = true))] at hln
      have HLL := Aside0.mk hln
      clear hln
      go_wp2_with fail
      go_meet
      exact ⟨by rw [HLL.out], HI6, HB6, K4f, K7⟩
  case rest =>
    clear HI6 HB6 K4f K7
    obtain ⟨rfl, HI6, HB6, K4f, K7⟩ := hcut
    have HV0 : Aside0 (Kd.R k46 46 wc w.heap.size (fun _ => True) (.slice none 0 0) []) := ⟨Kd.R_nil _ _ _ _ _⟩
    go_upto_block 0 with fail
    go_cut [] (fun wd => ∃ V : Value, Aside0 (IsRdr w wd rb g s2 e2 odd2) ∧ Aside0 (Below w.heap.size w wd) ∧ Aside0 (wd.heap[w.heap.size]? = some (.cells #[.bool false, .slice none 0 0] 26 (0, 0))) ∧ Aside0 (wd.heap[w5.heap.size]? = some (.cells #[.bool gone, V] 26 (0, 0))) ∧ Aside0 (Kd.R k46 46 wd w.heap.size (fun _ => True) V rows))
    case first =>
      go_wp2_with fail
      go_loopg [27] L.length (fun gg s27 wr => ∃ (i : Nat) (acc : List S46) (s : ByteArray) (e : Int) (odd : Bool) (V : Value), i ≤ L.length ∧ L.length - i ≤ gg ∧ s27 = .int .i64 i ∧ Aside0 (rowsF (L.drop i) acc s e odd = some (rows, s2, e2, odd2)) ∧ Aside0 (IsRdr w wr rb g s e odd) ∧ Aside0 (Below w.heap.size w wr) ∧ Aside0 (wr.heap[w.heap.size]? = some (.cells #[.bool false, .slice none 0 0] 26 (0, 0))) ∧ Aside0 (wr.heap[w5.heap.size]? = some (.cells #[.bool gone, V] 26 (0, 0))) ∧ Aside0 (Kd.R k46 46 wr w.heap.size (fun _ => True) V acc) ∧ Aside0 (acc.length ≤ i))
      case atStart => exact ⟨0, [], s1, e1, odd1, .slice none 0 0, by omega, by omega, rfl, HRW, HI6, HB6, K4f, K7, HV0, ⟨Nat.le_refl _⟩⟩
      case round =>
        clear HRW HI6 HB6 K4f K7 HV0
        obtain ⟨i, acc, s, e, odd, V, hi, hgg, rfl, HRW, HI, HB, K4, K7, HV, HAL⟩ := hrel
        by_cases hlt : i < L.length
        · have hltn : decide (i < L.length) = true := decide_eq_true hlt
          have hltz : decide ((i : Int) < (L.length : Int)) = true := decide_eq_true (by omega)
          have hiT : ((i : Int) < (L.length : Int)) = True := eq_true (by omega)
          have hi0 : ((0 : Int) ≤ (i : Int)) = True := eq_true (by omega)
          have hpi : IntKind.i64.wrap ((i : Int) + 1) = (i : Int) + 1 := IntWalk.i64_in _ (by have := HLB.out; omega)
          obtain ⟨ad, ea, hx0, hx1⟩ := at_T44 HLC.out (i : Int) (by omega) (by omega)
          cases ea
          replace hx0 := (HB.out.cell (World.block_lt_of_cell? w _ hx0)).trans hx0
          replace hx1 := (HB.out.cell (World.block_lt_of_cell? w _ hx1)).trans hx1
          rw [Int.toNat_natCast] at hx0 hx1
          have hxe : rd_T44 L (i : Int) = L[i] := by simp [rd_T44, hlt]
          have hrw := HRW.out
          rw [List.drop_eq_getElem_cons hlt, ← hxe] at hrw
          generalize rd_T44 L (i : Int) = c at *
          have HRW2 := Aside0.mk hrw; have HJ := Aside0.mk (And.intro hi (And.intro hgg hlt))
          have k9 := blk_new wr (.cells #[.int .i64 c.f0, .bool c.f1] 44)
          have b9 := below_alloc (Below.refl _ wr) (.cells #[.int .i64 c.f0, .bool c.f1] 44)
          have HI9 := Aside0.mk (HI.out.below b9)
          have HB9 := Aside0.mk (HB.out.trans (b9.mono HB.out.size))
          have K49 := Aside0.mk ((b9.block _ (Array.getElem?_eq_some_iff.1 K4.out).1).trans K4.out)
          have K79 := Aside0.mk ((b9.block _ (Array.getElem?_eq_some_iff.1 K7.out).1).trans K7.out)
          have HV9 := Aside0.mk (Kd.R_below HV.out b9)
          have K9 := Aside0.mk k9
          clear hrw HRW hi hgg hlt hxe k9 b9 HI HB K4 K7 HV
          go_wp2_with fail
          generalize wr.alloc (.cells #[.int .i64 c.f0, .bool c.f1] 44) = wx at *
          generalize hb9 : wr.heap.size = b9 at *
          refine (fine.calls rb g s e odd w wx HI9.out HB9.out).mono ?_
          rintro x w6 ⟨rfl, hS6⟩
          have h49 := (Array.getElem?_eq_some_iff.1 K49.out).1
          have h79 := (Array.getElem?_eq_some_iff.1 K79.out).1
          have h99 := (Array.getElem?_eq_some_iff.1 K9.out).1
          have n9r : b9 ≠ rb := fun e => by have h1 := K9.out; rw [e, HI9.out.1] at h1; simp at h1
          have n9g : b9 ≠ g := fun e => by have h1 := K9.out; rw [e, HI9.out.2.2.2.1] at h1; simp at h1
          have K4x := Aside0.mk ((hS6.2.2.2 _ h49 N4.out.1 N4.out.2).trans K49.out)
          have K7x := Aside0.mk ((hS6.2.2.2 _ h79 N7.out.1 N7.out.2.1).trans K79.out)
          have K9x := Aside0.mk ((hS6.2.2.2 _ h99 n9r n9g).trans K9.out)
          have HVx := Aside0.mk (R_keep2 HV9.out hS6.2.2 HI9.out.1 HI9.out.2.2.2.1)
          have HIx := Aside0.mk hS6.1; have HBx := Aside0.mk hS6.2.1
          have N9 := Aside0.mk (And.intro n9r n9g)
          have hrw := HRW2.out
          unfold rowsF at hrw
          clear hS6 h49 h79 h99 n9r n9g HI9 HB9 K49 K79 K9 HV9 HRW2
          cases hf : (!odd && (e == 0)) with
          | false =>
            rw [hf, if_neg (by decide : ¬ (false = true))] at hrw
            have hrw := Option.some.inj hrw
            simp only [Prod.mk.injEq] at hrw
            obtain ⟨rfl, rfl, rfl, rfl⟩ := hrw
            go_wp2_with fail
            go_meet
            case rel => exact ⟨V, HIx, HBx, K4x, K7x, HVx⟩
          | true =>
            rw [hf, if_pos (rfl : true = true)] at hrw
            obtain ⟨⟨v, s3, e3, odd3⟩, hvf, hrw⟩ := Option.bind_eq_some_iff.mp hrw
            have HVF := Aside0.mk hvf; have HRN := Aside0.mk hrw
            clear hvf hrw hf
            obtain ⟨Av, cv, hVe⟩ := Kd.R_slice HVx.out
            subst hVe
            have p1 : w6.cell? ⟨w5.heap.size, 1, none⟩ = some (.slice Av acc.length cv) := (blk_cell K7x.out 1).trans rfl
            have f1 := blk_frozen K7x.out 1
            have c9a : w6.cell? ⟨b9, 0, none⟩ = some (.int .i64 c.f0) := (blk_cell K9x.out 0).trans rfl
            have c9b : w6.cell? ⟨b9, 1, none⟩ = some (.bool c.f1) := (blk_cell K9x.out 1).trans rfl
            have NB : Aside0 (b9 ≠ w5.heap.size) := ⟨fun e => by have h1 := K9x.out; rw [e, K7x.out] at h1; simp at h1⟩
            have HK7 := K7x; have HK9 := K9x
            go_wp2_with fail
            go_region_law
              (first
                | (go_simp; go_at_call 41; refine (value.calls rb g s e odd c v s3 e3 odd3 w _ (IsRdr.below HIx.out (below_drew (Below.refl _ _))) (below_drew HBx.out) HVF.out).mono ?_; rintro x wv ⟨rfl, hSv⟩; (have HKn7 := Aside0.mk ((hSv.2.2.2 _ (Array.getElem?_eq_some_iff.1 K7x.out).1 N7.out.1 N7.out.2.1).trans K7x.out)); (have HKn9 := Aside0.mk ((hSv.2.2.2 _ (Array.getElem?_eq_some_iff.1 K9x.out).1 N9.out.1 N9.out.2).trans K9x.out)); (have HKn4 := Aside0.mk ((hSv.2.2.2 _ (Array.getElem?_eq_some_iff.1 K4x.out).1 N4.out.1 N4.out.2).trans K4x.out)); (have HVv := Aside0.mk (R_keep2 (show Kd.R k46 46 w6.drew w.heap.size (fun _ => True) (.slice Av acc.length cv) acc from HVx.out) hSv.2.2 HIx.out.1 HIx.out.2.2.2.1)); (have HIv := Aside0.mk hSv.1); (have HBv := Aside0.mk hSv.2.1); clear hSv HK7 HK9; (have HK7 := HKn7); (have HK9 := HKn9); (have p7 : wv.cell? ⟨w5.heap.size, 1, none⟩ = some (.slice Av acc.length cv) := (blk_cell HK7.out 1).trans rfl); (have p7a : ∀ x, (wv.alloc x).cell? ⟨w5.heap.size, 1, none⟩ = some (.slice Av acc.length cv) := fun x => (blk_cell (blk_alloc HK7.out x) 1).trans rfl); (have c9v : wv.cell? ⟨b9, 0, none⟩ = some (.int .i64 c.f0) := (blk_cell HK9.out 0).trans rfl); (have c9w : wv.cell? ⟨b9, 1, none⟩ = some (.bool c.f1) := (blk_cell HK9.out 1).trans rfl); (try go_wp2_with fail))
                | (refine Kd.R_append_step k46 (w0 := w) w.heap.size (by rfl) (.tmp 35) (.tmp 39) 24 46 (.agg #[.bool false, .int .i64 0, .string ⟨#[]⟩]) 32 rfl Tryz.underlying24 info46 rfl (by decide) (by omega) (.slice Av acc.length cv) acc v [.bool v.f0, .int .i64 v.f1, .string v.f2] (fun _ => True) (fun _ => False) rfl rfl (k46_mkM _ _ _ _) (fun _ h => h.elim) (fun _ _ => trivial) HVv.out HBv.out HBv.out.size (by have h1 := HAL.out; have h2 := HJ.out; have h3 := HLB.out; omega) ?_; intro v8 w8 hr8 hb8 hg8 _; (obtain ⟨A8, c8, hv8e⟩ := Kd.R_slice hr8); subst hv8e; (have HR8 := Aside0.mk hr8); (have HB8 := Aside0.mk hb8); (have HG8 := Aside0.mk hg8); (have HKn7 := Aside0.mk ((hg8.block _ (Array.getElem?_eq_some_iff.1 HK7.out).1 (Kd.R_ne HVv.out HK7.out (by decide))).trans HK7.out)); (have HKn9 := Aside0.mk ((hg8.block _ (Array.getElem?_eq_some_iff.1 HK9.out).1 (Kd.R_ne HVv.out HK9.out (by decide))).trans HK9.out)); (have HKn4 := Aside0.mk ((hg8.block _ (Array.getElem?_eq_some_iff.1 HKn4.out).1 (Kd.R_ne HVv.out HKn4.out (by decide))).trans HKn4.out)); clear hr8 hb8 hg8 HK7 HK9; (have HK7 := HKn7); (have HK9 := HKn9); (have p8 : w8.cell? ⟨w5.heap.size, 1, none⟩ = some (.slice Av acc.length cv) := (blk_cell HK7.out 1).trans rfl); (have f8 := blk_frozen HK7.out 1)))
            all_goals (
              have n48 : w.heap.size ≠ w5.heap.size := by have := N7.out.2.2; omega
              have hr7 := blk_set HK7.out 1 (.slice A8 (acc ++ [v]).length c8)
              have HI8 : IsRdr w w8 rb g s3 e3 odd3 := ⟨blk_grown HIv.out.1 HG8.out (Kd.R_ne HVv.out HIv.out.1 (by decide)), HIv.out.2.1, HIv.out.2.2.1, HIv.out.2.2.2.grown HG8.out (HIv.out.2.2.2.own_ne HVv.out (by decide))⟩
              have HIz : Aside0 (IsRdr w (w8.setCell ⟨w5.heap.size, 1, none⟩ (.slice A8 (acc ++ [v]).length c8)) rb g s3 e3 odd3) := ⟨blk_far HI8.1 (Ne.symm N7.out.1) _, HI8.2.1, HI8.2.2.1, HI8.2.2.2.far (Ne.symm N7.out.2.1) _⟩
              have HBz : Aside0 (Below w.heap.size w (w8.setCell ⟨w5.heap.size, 1, none⟩ (.slice A8 (acc ++ [v]).length c8))) := ⟨Below.setCell HB8.out (Nat.le_of_lt N7.out.2.2) _⟩
              have K4z := Aside0.mk (blk_far (p := ⟨w5.heap.size, 1, none⟩) HKn4.out n48 (.slice A8 (acc ++ [v]).length c8))
              have HVz := Aside0.mk (Kd.R_set HR8.out HKn7.out (by decide) 1 (.slice A8 (acc ++ [v]).length c8))
              have K7z : Aside0 ((w8.setCell ⟨w5.heap.size, 1, none⟩ (.slice A8 (acc ++ [v]).length c8)).heap[w5.heap.size]? = some (.cells #[.bool gone, .slice A8 (acc ++ [v]).length c8] 26 (0, 0))) := ⟨hr7⟩
              have hla : (acc ++ [v]).length = acc.length + 1 := by simp
              have HAz : Aside0 ((acc ++ [v]).length ≤ i + 1) := ⟨by have := HAL.out; omega⟩
              rw [hla] at HIz HBz K4z HVz K7z
              clear hr7 HI8 p1 f1 c9a c9b p7 p7a p8 HKn7 HKn9 HKn4 HK7 HK9 HR8 HB8 HG8 HVv HIv HBv hx0 hx1
              generalize w8.setCell ⟨w5.heap.size, 1, none⟩ (.slice A8 (acc.length + 1) c8) = wz at *
              go_wp2_with fail
              go_roundg (L.length - (i + 1))
              case measure => have := HJ.out; omega
              case rel => exact ⟨i + 1, acc ++ [v], s3, e3, odd3, .slice A8 (acc.length + 1) c8, by have := HJ.out; omega, by have := HJ.out; omega, by simp, HRN, HIz, HBz, K4z, K7z, HVz, HAz⟩)
        · obtain rfl : i = L.length := by omega
          have hltn : decide (L.length < L.length) = false := decide_eq_false (by omega)
          have hltz : decide ((L.length : Int) < (L.length : Int)) = false := decide_eq_false (by omega)
          have hrw := HRW.out
          rw [List.drop_length] at hrw
          have hrw := Option.some.inj hrw
          simp only [Prod.mk.injEq] at hrw
          obtain ⟨rfl, rfl, rfl, rfl⟩ := hrw
          go_wp2_with fail
          go_meet
          case rel => exact ⟨V, HI, HB, K4, K7, HV⟩
    case rest =>
      obtain ⟨V, HI, HB, K4, K7, HV⟩ := hcut
      obtain ⟨Av, cv, hVe⟩ := Kd.R_slice HV.out
      subst hVe
      have hrb := HI.out.1
      have r0 := (blk_cell hrb 0).trans rfl
      have rr1 := (blk_cell hrb 1).trans rfl
      clear hrb
      have hend := HEND.out
      cases odd2 with
      | true =>
        rw [if_pos (rfl : true = true)] at hend
        have hend := Option.some.inj hend
        simp only [Prod.mk.injEq] at hend
        obtain ⟨rfl, rfl, rfl⟩ := hend
        have hk4 := K4.out
        have q0 := (blk_cell hk4 0).trans rfl
        have q1 := (blk_cell hk4 1).trans rfl
        have z0 := blk_frozen hk4 0
        have z1 := blk_frozen hk4 1
        clear hk4
        go_wp2_with fail
        refine bodyPost_ret (v := .tuple #[.agg #[.bool false, .slice none 0 0], .int .i64 4]) (by simp [results, Tryz.results18, go_sem, q0, q1]) rfl ⟨_, rfl, Kd.R_nil _ _ _ _ _, ?_⟩
        iterate 2 refine Below.setCell ?_ (show w.heap.size ≤ w.heap.size from Nat.le_refl _) _
        exact HB.out
      | false =>
        rw [if_neg (by decide : ¬ (false = true))] at hend
        obtain ⟨⟨d1, sd, ed⟩, hd, hend⟩ := Option.bind_eq_some_iff.mp hend
        have HD := Aside0.mk hd
        simp only at hend
        have HE := Aside0.mk hend
        have hrlt := (Array.getElem?_eq_some_iff.1 HI.out.1).1
        have h4lt := (Array.getElem?_eq_some_iff.1 K4.out).1
        have h7lt := (Array.getElem?_eq_some_iff.1 K7.out).1
        have HRL := Aside0.mk hrlt; have H4L := Aside0.mk h4lt; have H7L := Aside0.mk h7lt
        clear hd hend hrlt h4lt h7lt HEND
        go_wp2_with fail
        refine (tally_Cursor_Done.calls g s2 e2 d1 sd ed w _ HI.out.2.2.2 HB.out HD.out).mono ?_
        rintro x wy ⟨rfl, hS, hB, hK⟩
        have K4y := Aside0.mk ((hK.2 _ H4L.out N4.out.2 (by simp)).trans K4.out)
        have K7y := Aside0.mk ((hK.2 _ H7L.out N7.out.2.1 (by simp)).trans K7.out)
        have HRy := Aside0.mk ((hK.2 rb HRL.out HI.out.2.2.1 (by simp)).trans HI.out.1)
        have HVy := Aside0.mk (Kd.R_mono (ok' := fun _ => True) (Kd.R_keep (Kd.R_types HV.out HI.out.2.2.2.1 (by decide)) hK (fun k hk => hk.2)) (fun _ _ => trivial))
        have HSy := Aside0.mk hS; have HBy := Aside0.mk hB
        clear hS hB hK r0 rr1 K4 K7 HV HI HB
        have hrb := HRy.out
        have r0 := (blk_cell hrb 0).trans rfl
        clear hrb
        have K4 := K4y
        have hend := HE.out
        by_cases hd0 : d1 = 0
        · subst hd0
          rw [if_pos (rfl : (0 : Int) = 0)] at hend
          have hend := Option.some.inj hend
          simp only [Prod.mk.injEq] at hend
          obtain ⟨rfl, rfl, rfl⟩ := hend
          have hk7 := K7y.out
          have p0 := (blk_cell hk7 0).trans rfl
          have p1 := (blk_cell hk7 1).trans rfl
          clear hk7
          have hk4 := K4.out
          have q0 := (blk_cell hk4 0).trans rfl
          have q1 := (blk_cell hk4 1).trans rfl
          have z0 := blk_frozen hk4 0
          have z1 := blk_frozen hk4 1
          clear hk4
          go_wp2_with fail
          refine bodyPost_ret (v := .tuple #[.agg #[.bool gone, .slice Av rows.length cv], .int .i64 0]) (by simp [results, Tryz.results18, go_sem, q0, q1]) rfl ⟨_, rfl, ?_, ?_⟩
          · exact Kd.R_set (Kd.R_set HVy.out K4.out (by decide) 0 (.bool gone)) (blk_set K4.out 0 (.bool gone)) (by decide) 1 (.slice Av rows.length cv)
          · iterate 2 refine Below.setCell ?_ (show w.heap.size ≤ w.heap.size from Nat.le_refl _) _
            exact HBy.out
        · have g1 : (d1 == 0) = false := beq_eq_false_iff_ne.mpr hd0
          have g2 : (d1 != 0) = true := bne_iff_ne.mpr hd0
          rw [if_neg hd0] at hend
          obtain ⟨⟨d2, sd2, ed2⟩, hd2, hend⟩ := Option.bind_eq_some_iff.mp hend
          have hend := Option.some.inj hend
          simp only [Prod.mk.injEq] at hend
          obtain ⟨rfl, rfl, rfl⟩ := hend
          have HD2 := Aside0.mk hd2
          clear hd2 hd0
          go_wp2_with fail
          refine (tally_Cursor_Done.calls g sd ed d2 sd2 ed2 w wy HSy.out HBy.out HD2.out).mono ?_
          rintro x wz ⟨rfl, hS, hB, hK⟩
          have K4z := Aside0.mk ((hK.2 _ (Array.getElem?_eq_some_iff.1 K4.out).1 N4.out.2 (by simp)).trans K4.out)
          have HBz := Aside0.mk hB
          clear hS hB hK K4
          have K4 := K4z
          have hk4 := K4.out
          have q0 := (blk_cell hk4 0).trans rfl
          have q1 := (blk_cell hk4 1).trans rfl
          have z0 := blk_frozen hk4 0
          have z1 := blk_frozen hk4 1
          clear hk4
          go_wp2_with fail
          refine bodyPost_ret (v := .tuple #[.agg #[.bool false, .slice none 0 0], .int .i64 d2]) (by simp [results, Tryz.results18, go_sem, q0, q1]) rfl ⟨_, rfl, Kd.R_nil _ _ _ _ _, ?_⟩
          iterate 2 refine Below.setCell ?_ (show w.heap.size ≤ w.heap.size from Nat.le_refl _) _
          exact HBz.out
end Go.Proofs.YtojcbknclfamhaaGreatDoor.A
