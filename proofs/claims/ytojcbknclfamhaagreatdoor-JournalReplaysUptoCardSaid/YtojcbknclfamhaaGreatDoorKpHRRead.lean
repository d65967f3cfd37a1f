/- tithebarnref07.Read: the deed that bytes are, by the document. -/
import Derived.Test.YtojcbknclfamhaaGreatDoorKpAx0
import Derived.Test.YtojcbknclfamhaaGreatDoorKpAx16
import Derived.Test.YtojcbknclfamhaaGreatDoorKpAx18
import Derived.Test.YtojcbknclfamhaaGreatDoorKpAx20
import Derived.Test.YtojcbknclfamhaaGreatDoorKpBxVal
namespace Go.Proofs.YtojcbknclfamhaaGreatDoor.A
open Go.RowKit Go.Proofs.YtojcbknclfamhaaGreatDoorW.PrintWords Go.Proofs.YtojcbknclfamhaaGreatDoorW.PrintLast Go.Proofs.YtojcbknclfamhaaGreatDoorW.PrintMore
set_option linter.unusedVariables false
set_option linter.unusedSimpArgs false
def rrowsF : List S44 → List S46 → ByteArray → Int → Int → Int → Option (List S46 × ByteArray × Int × Int × Int)
  | [], acc, s, a, er, e => some (acc, s, a, er, e)
  | c :: cs, acc, s, a, er, e => if e = 0 then (tithebarnref07_value.f 100 s a er c.f0 c.f1).bind fun r => rrowsF cs (acc ++ [⟨r.1, r.2.1, r.2.2.1⟩]) r.2.2.2.2.1 r.2.2.2.2.2.1 r.2.2.2.2.2.2 r.2.2.2.1 else some (acc, s, a, er, e)
def tithebarnref07_Read.f (l : List S44) (text : ByteArray) : Option (Bool × List S46 × Int) :=
  (tithebarnref02_Right.f 100 l).bind fun ok => if ok = false then some (false, [], 4) else if ¬ (0 < l.length ∧ l.length ≤ 6) then none else
  (tithebarnref07_truth.f text 0 0).bind fun t => (rrowsF (if t.1 = true then l.take 1 else l) [] t.2.2.1 t.2.2.2.1 t.2.2.2.2 t.2.1).bind fun r =>
    if r.2.2.2.2 = 0 then (tithebarnref01_Cursor_Done.f r.2.1 r.2.2.1 r.2.2.2.1).bind fun d => if d.1 = 0 then some (t.1, r.1, 0) else some (false, [], d.1) else some (false, [], r.2.2.2.2)
theorem R_keep1 {w W W1 : World} {g base : Nat} {V : Value} {xs : List S46} {s : ByteArray} {a er : Int} (h : Kd.R k46 46 W base (fun _ => True) V xs) (hk : KeepBut W W1 g none) (h2 : IsS88 w W g s a er) : Kd.R k46 46 W1 base (fun _ => True) V xs :=
  Kd.R_mono (ok' := fun _ => True) (Kd.R_keep (Kd.R_types h h2.1 (by decide)) hk (fun k hk => hk.2)) (fun _ _ => trivial)
set_option maxHeartbeats 16000000 in
set_option maxRecDepth 100000 in
theorem tithebarnref07_Read.calls (A0 : Option Addr) (c0 : Nat) (l0 : List S44) (a1 : ByteArray) (r1 : Bool) (r2 : List S46) (r3 : Int) (w : World) (hr0 : Kd.C k44 w A0 l0.length l0) (hc0 : l0.length ≤ c0) (h : tithebarnref07_Read.f l0 a1 = some (r1, r2, r3)) :
    Calls Tryz.prog 21 #[.slice A0 l0.length c0, .string a1] w fun e w' => ∃ v : Value, e = .returned (.tuple #[.agg #[.bool r1, v], .int .i64 r3]) ∧ Kd.R k46 46 w' w.heap.size (fun _ => True) v r2 ∧ Below w.heap.size w w' := by
  have hu := Tryz.underlying26
  have hu2 := Tryz.underlying44
  have hu3 := Tryz.underlying46
  have hu4 := Tryz.underlying88
  have HR := Aside0.mk hr0
  unfold tithebarnref07_Read.f at h
  obtain ⟨ok, hok, h⟩ := Option.bind_eq_some_iff.mp h
  have HOK := Aside0.mk hok
  have hb1 := below_alloc (Below.refl _ w) (.cells #[.bool false, .slice none 0 0] 26)
  have hk1 := blk_new w (.cells #[.bool false, .slice none 0 0] 26)
  have HB1 := Aside0.mk hb1; have K4 := Aside0.mk hk1
  clear hr0 hb1 hk1 hok
  cases ok with
  | false =>
    rw [if_pos (rfl : false = false)] at h
    have h := Option.some.inj h
    simp only [Prod.mk.injEq] at h
    obtain ⟨rfl, rfl, rfl⟩ := h
    go_enter Tryz.func21, Tryz.ntmps21
    go_wp2_with fail
    generalize w.alloc (.cells #[.bool false, .slice none 0 0] 26) = w1 at *
    refine (tithebarnref02_Right.calls 100 A0 c0 l0 false w1 (Kd.C_below HR.out HB1.out) hc0 HOK.out).mono ?_
    rintro e w2 ⟨rfl, ⟨q1, rfl⟩⟩
    have HB2 := Aside0.mk (pw_below_drewN HB1.out q1)
    have hk : (w1.drewN q1).heap[w.heap.size]? = some (.cells #[.bool false, .slice none 0 0] 26 (0, 0)) := K4.out
    generalize w1.drewN q1 = w2 at *
    have q0 := (blk_cell hk 0).trans rfl
    have q1 := (blk_cell hk 1).trans rfl
    have z0 := blk_frozen hk 0
    have z1 := blk_frozen hk 1
    clear hk
    go_wp2_with fail
    refine bodyPost_ret (v := .tuple #[.agg #[.bool false, .slice none 0 0], .int .i64 4]) (by simp [results, Tryz.results21, go_sem, q0, q1]) rfl ⟨_, rfl, Kd.R_nil _ _ _ _ _, ?_⟩
    iterate 2 refine Below.setCell ?_ (show w.heap.size ≤ w.heap.size from Nat.le_refl _) _
    exact HB2.out
  | true =>
  rw [if_neg (by decide)] at h
  have hlen : 0 < l0.length ∧ l0.length ≤ 6 := by
    by_cases hx : 0 < l0.length ∧ l0.length ≤ 6
    · exact hx
    · rw [if_pos hx] at h; exact absurd h (by simp)
  rw [if_neg (fun hx => hx hlen)] at h
  obtain ⟨⟨gone, e1, s1, a1', er1⟩, ht, h⟩ := Option.bind_eq_some_iff.mp h
  obtain ⟨⟨rows, s2, a2, er2, e2⟩, hrw, h⟩ := Option.bind_eq_some_iff.mp h
  have HT := Aside0.mk ht; have HRW := Aside0.mk hrw; have HEND := Aside0.mk h; have HL6 := Aside0.mk hlen
  clear ht hrw h
  go_enter Tryz.func21, Tryz.ntmps21
  go_wp2_with fail
  generalize w.alloc (.cells #[.bool false, .slice none 0 0] 26) = w1 at *
  refine (tithebarnref02_Right.calls 100 A0 c0 l0 true w1 (Kd.C_below HR.out HB1.out) hc0 HOK.out).mono ?_
  rintro e w2 ⟨rfl, ⟨q1, rfl⟩⟩
  have HB2 := Aside0.mk (pw_below_drewN HB1.out q1)
  have K4b : Aside0 ((w1.drewN q1).heap[w.heap.size]? = some (.cells #[.bool false, .slice none 0 0] 26 (0, 0))) := ⟨K4.out⟩
  generalize w1.drewN q1 = w2 at *
  have hI3 := IsS88.new w w2 a1 0 0 HB2.out
  have hb3 := below_alloc (Below.refl _ w2) (.cells #[.string a1, .int .i64 0, .int .i64 0] 88)
  have HI3 := Aside0.mk hI3
  have HB3 := Aside0.mk (HB2.out.trans (hb3.mono HB2.out.size))
  have K4c := Aside0.mk ((hb3.block _ (Array.getElem?_eq_some_iff.1 K4b.out).1).trans K4b.out)
  have N4 : Aside0 (w.heap.size ≠ w2.heap.size) := ⟨by have := (Array.getElem?_eq_some_iff.1 K4b.out).1; omega⟩
  clear hI3 hb3 K4 HB1 K4b HB2
  go_wp2_with fail
  generalize w2.alloc (.cells #[.string a1, .int .i64 0, .int .i64 0] 88) = w4 at *
  generalize w2.heap.size = g at *
  refine (tithebarnref07_truth.calls g a1 0 0 gone e1 s1 a1' er1 w w4 HI3.out HB3.out HT.out).mono ?_
  rintro x w5 ⟨rfl, hS5, hB5, hK5⟩
  have K4e := Aside0.mk ((hK5.2 _ (Array.getElem?_eq_some_iff.1 K4c.out).1 N4.out (by simp)).trans K4c.out)
  have k7 := blk_new w5 (.cells #[.bool gone, .slice none 0 0] 26)
  have b7 := below_alloc (Below.refl _ w5) (.cells #[.bool gone, .slice none 0 0] 26)
  have K7 := Aside0.mk k7
  have HI6 := Aside0.mk (hS5.below b7)
  have HB6 := Aside0.mk (hB5.trans (b7.mono hB5.size))
  have K4f := Aside0.mk ((b7.block _ (Array.getElem?_eq_some_iff.1 K4e.out).1).trans K4e.out)
  have N7 : Aside0 (w5.heap.size ≠ g ∧ w.heap.size < w5.heap.size) := ⟨by have := hS5.lt; omega, (Array.getElem?_eq_some_iff.1 K4e.out).1⟩
  clear hB5 hK5 K4c HI3 HB3 HT k7 b7 K4e
  have HS5 := Aside0.mk hS5
  clear hS5
  obtain ⟨L, hL⟩ : ∃ L, L = (if gone = true then l0.take 1 else l0) := ⟨_, rfl⟩
  rw [← hL] at HRW
  have hLn : L.length = (if gone = true then 1 else l0.length) := by
    rw [hL]
    split
    · rw [List.length_take]; omega
    · rfl
  have hLb : L.length ≤ l0.length := by
    rw [hL]
    split
    · rw [List.length_take]; omega
    · exact Nat.le_refl _
  have hLC : ∀ i (h : i < L.length), ∃ h2 : i < l0.length, l0[i] = L[i] := by
    intro i hi
    refine ⟨by omega, ?_⟩
    subst hL
    split
    · rw [List.getElem_take]
    · rfl
  have HLC := Aside0.mk hLC; have HLN := Aside0.mk hLn; have HLB := Aside0.mk hLb
  clear hL hLn hLb hLC hlen
  go_upto_if 28 with (fail)
  go_cut [9] (fun s9 wc => s9 = .int .i64 L.length ∧ wc = w5)
  case first =>
    cases gone with
    | true =>
      have hln := HLN.out
      rw [if_pos (rfl : true = true)] at hln
      have HLL := Aside0.mk hln
      clear hln
      go_wp2_with fail
      go_meet
      exact ⟨by rw [HLL.out]; rfl, rfl⟩
    | false =>
      have hln := HLN.out
      rw [if_neg (by decide : ¬ (false = true))] at hln
      have HLL := Aside0.mk hln
      clear hln
      go_wp2_with fail
      go_meet
      exact ⟨by rw [HLL.out], rfl⟩
  case rest =>
    obtain ⟨rfl, rfl⟩ := hcut
    have HV0 : Aside0 (Kd.R k46 46 (wc.alloc (.cells #[.bool gone, .slice none 0 0] 26)) w.heap.size (fun _ => True) (.slice none 0 0) []) := ⟨Kd.R_nil _ _ _ _ _⟩
    go_upto_block 0 with fail
    generalize hw6 : wc.alloc (.cells #[.bool gone, .slice none 0 0] 26) = w6 at *
    generalize wc.heap.size = b10 at *
    go_cut [8] (fun s8 wd => ∃ V : Value, s8 = .int .i64 e2 ∧ Aside0 (IsS88 w wd g s2 a2 er2) ∧ Aside0 (Below w.heap.size w wd) ∧ Aside0 (wd.heap[w.heap.size]? = some (.cells #[.bool false, .slice none 0 0] 26 (0, 0))) ∧ Aside0 (wd.heap[b10]? = some (.cells #[.bool gone, V] 26 (0, 0))) ∧ Aside0 (Kd.R k46 46 wd w.heap.size (fun _ => True) V rows))
    case first =>
      go_wp2_with fail
      go_loopg [8, 11] L.length (fun gg s8 s11 wr => ∃ (i : Nat) (acc : List S46) (s : ByteArray) (a er e : Int) (V : Value), i ≤ L.length ∧ L.length - i ≤ gg ∧ s8 = .int .i64 e ∧ s11 = .int .i64 i ∧ Aside0 (rrowsF (L.drop i) acc s a er e = some (rows, s2, a2, er2, e2)) ∧ Aside0 (IsS88 w wr g s a er) ∧ Aside0 (Below w.heap.size w wr) ∧ Aside0 (wr.heap[w.heap.size]? = some (.cells #[.bool false, .slice none 0 0] 26 (0, 0))) ∧ Aside0 (wr.heap[b10]? = some (.cells #[.bool gone, V] 26 (0, 0))) ∧ Aside0 (Kd.R k46 46 wr w.heap.size (fun _ => True) V acc) ∧ Aside0 (acc.length ≤ i))
      case atStart => exact ⟨0, [], s1, a1', er1, e1, .slice none 0 0, by omega, by omega, rfl, rfl, HRW, HI6, HB6, K4f, K7, HV0, ⟨Nat.le_refl _⟩⟩
      case round =>
        clear HRW HI6 HB6 K4f K7 HV0
        obtain ⟨i, acc, s, a, er, e, V, hi, hgg, rfl, rfl, HRW, HI, HB, K4, K7, HV, HAL⟩ := hrel
        obtain ⟨Av, cv, hVe⟩ := Kd.R_slice HV.out
        subst hVe
        by_cases hlt : i < L.length
        · have hltn : decide (i < L.length) = true := decide_eq_true hlt
          have hltz : decide ((i : Int) < (L.length : Int)) = true := decide_eq_true (by omega)
          have hrw := HRW.out
          rw [List.drop_eq_getElem_cons hlt] at hrw
          unfold rrowsF at hrw
          by_cases he : e = 0
          · rw [if_pos he] at hrw
            subst he
            obtain ⟨⟨v0, v1, v2, f, s3, a3, er3⟩, hvf, hrw⟩ := Option.bind_eq_some_iff.mp hrw
            obtain ⟨hl2, hel⟩ := HLC.out i hlt
            obtain ⟨ad, ea, hx0, hx1⟩ := at_T44 HR.out (i : Int) (by omega) (by omega)
            cases ea
            replace hx0 := (HB.out.cell (World.block_lt_of_cell? w _ hx0)).trans hx0
            replace hx1 := (HB.out.cell (World.block_lt_of_cell? w _ hx1)).trans hx1
            rw [Int.toNat_natCast] at hx0 hx1
            have hxe : rd_T44 l0 (i : Int) = L[i] := by rw [← hel]; simp [rd_T44, hl2]
            rw [← hxe] at hvf
            have hiT : ((i : Int) < (l0.length : Int)) = True := eq_true (by omega)
            have hi0 : ((0 : Int) ≤ (i : Int)) = True := eq_true (by omega)
            have hpi : IntKind.i64.wrap ((i : Int) + 1) = (i : Int) + 1 := IntWalk.i64_in _ (by have := HLB.out; have := HL6.out; omega)
            generalize rd_T44 l0 (i : Int) = c at *
            have HVF := Aside0.mk hvf; have HRN := Aside0.mk hrw; have HJ := Aside0.mk (And.intro hi (And.intro hgg hlt))
            have hn4 := (Array.getElem?_eq_some_iff.1 K4.out).1
            have hn7 := (Array.getElem?_eq_some_iff.1 K7.out).1
            have HN4 := Aside0.mk hn4; have HN7 := Aside0.mk hn7
            clear hxe hvf hel hn4 hn7
            clear hrw HRW
            clear hi hgg
            go_wp2_with fail
            refine (tithebarnref07_value.calls 100 g s a er c.f0 c.f1 v0 v1 v2 f s3 a3 er3 w _ HI.out HB.out HVF.out).mono ?_
            rintro x wv ⟨rfl, hSv, hBv, hKv⟩
            have K4v := Aside0.mk ((hKv.2 _ HN4.out N4.out (by simp)).trans K4.out)
            have K7v := Aside0.mk ((hKv.2 _ HN7.out N7.out.1 (by simp)).trans K7.out)
            have HVv := Aside0.mk (R_keep1 HV.out hKv HI.out)
            have bx := below_alloc (Below.refl _ wv) (.cells #[.bool v0, .int .i64 v1, .string v2] 46)
            have kx := blk_new wv (.cells #[.bool v0, .int .i64 v1, .string v2] 46)
            have HIx := Aside0.mk (hSv.below bx)
            have HBx := Aside0.mk (hBv.trans (bx.mono hBv.size))
            have K4x := Aside0.mk ((bx.block _ (Array.getElem?_eq_some_iff.1 K4v.out).1).trans K4v.out)
            have K7x := Aside0.mk ((bx.block _ (Array.getElem?_eq_some_iff.1 K7v.out).1).trans K7v.out)
            have HVx := Aside0.mk (Kd.R_below HVv.out bx)
            have p1 := (blk_cell K7x.out 1).trans rfl
            have f1 := blk_frozen K7x.out 1
            have y0 := (blk_cell kx 0).trans rfl
            have y1 := (blk_cell kx 1).trans rfl
            have y2 := (blk_cell kx 2).trans rfl
            clear hSv hBv hKv bx kx K4v K7v HVv HI HB K4 K7 HV HVF hx0 hx1
            go_upto_region 14 with (fail)
            generalize wv.alloc (.cells #[.bool v0, .int .i64 v1, .string v2] 46) = wx at *
            generalize wv.heap.size = bv at *
            go_wp2_with (first | (at_builtin; refine Kd.R_append k46 (w0 := w) w.heap.size rfl (.tmp 51) (.tmp 53) 24 46 (.agg #[.bool false, .int .i64 0, .string ⟨#[]⟩]) 32 rfl Tryz.underlying24 info46 rfl (by decide) (by omega) (.slice Av acc.length cv) acc (⟨v0, v1, v2⟩ : S46) [.bool v0, .int .i64 v1, .string v2] (fun _ => True) (fun _ => False) rfl rfl (k46_mkM _ _ _ _) (fun _ hk => hk.elim) (fun _ _ => trivial) HVx.out HBx.out HBx.out.size (by have h1 := HAL.out; have h2 := HJ.out; have h3 := HLB.out; have h4 := HL6.out; omega) ?_; intro v8 w8 hr8 hb8 hg8 _; (obtain ⟨A8, c8, hv8e⟩ := Kd.R_slice hr8); subst hv8e; (have HR8 := Aside0.mk hr8); (have HB8 := Aside0.mk hb8); (have HG8 := Aside0.mk hg8); (have HI8 := Aside0.mk (HIx.out.grown HG8.out (HIx.out.own_ne HVx.out (by decide)))); (have HK7 := Aside0.mk ((hg8.block _ (Array.getElem?_eq_some_iff.1 K7x.out).1 (Kd.R_ne HVx.out K7x.out (by decide))).trans K7x.out)); (have HK4 := Aside0.mk ((hg8.block _ (Array.getElem?_eq_some_iff.1 K4x.out).1 (Kd.R_ne HVx.out K4x.out (by decide))).trans K4x.out)); clear hr8 hb8 hg8; (have p8 := (blk_cell HK7.out 1).trans rfl); (have f8 := blk_frozen HK7.out 1)))
            have n4b : w.heap.size ≠ b10 := by have := N7.out.2; omega
            have hr7 := blk_set HK7.out 1 (.slice A8 (acc ++ [(⟨v0, v1, v2⟩ : S46)]).length c8)
            have HIz : Aside0 (IsS88 w (w8.setCell ⟨b10, 1, none⟩ (.slice A8 (acc ++ [(⟨v0, v1, v2⟩ : S46)]).length c8)) g s3 a3 er3) := ⟨HI8.out.far (Ne.symm N7.out.1) _⟩
            have HBz : Aside0 (Below w.heap.size w (w8.setCell ⟨b10, 1, none⟩ (.slice A8 (acc ++ [(⟨v0, v1, v2⟩ : S46)]).length c8))) := ⟨Below.setCell HB8.out (Nat.le_of_lt N7.out.2) _⟩
            have K4z := Aside0.mk (blk_far (p := ⟨b10, 1, none⟩) HK4.out n4b (.slice A8 (acc ++ [(⟨v0, v1, v2⟩ : S46)]).length c8))
            have HVz := Aside0.mk (Kd.R_set HR8.out HK7.out (by decide) 1 (.slice A8 (acc ++ [(⟨v0, v1, v2⟩ : S46)]).length c8))
            have K7z : Aside0 ((w8.setCell ⟨b10, 1, none⟩ (.slice A8 (acc ++ [(⟨v0, v1, v2⟩ : S46)]).length c8)).heap[b10]? = some (.cells #[.bool gone, .slice A8 (acc ++ [(⟨v0, v1, v2⟩ : S46)]).length c8] 26 (0, 0))) := ⟨hr7⟩
            have hla : (acc ++ [(⟨v0, v1, v2⟩ : S46)]).length = acc.length + 1 := by simp
            have HAz : Aside0 ((acc ++ [(⟨v0, v1, v2⟩ : S46)]).length ≤ i + 1) := ⟨by have := HAL.out; omega⟩
            rw [hla] at HIz HBz K4z HVz K7z
            clear hr7 p8 f8 p1 f1 y0 y1 y2 HK4 HK7 HR8 HB8 HG8 HI8 HVx HIx HBx K4x K7x
            generalize w8.setCell ⟨b10, 1, none⟩ (.slice A8 (acc.length + 1) c8) = wz at *
            go_roundg (L.length - (i + 1))
            case measure => have := HJ.out; omega
            case rel => exact ⟨i + 1, acc ++ [⟨v0, v1, v2⟩], s3, a3, er3, f, .slice A8 (acc.length + 1) c8, by have := HJ.out; omega, by have := HJ.out; omega, rfl, by simp, HRN, HIz, HBz, K4z, K7z, HVz, HAz⟩
          · rw [if_neg he] at hrw
            have hrw := Option.some.inj hrw
            simp only [Prod.mk.injEq] at hrw
            obtain ⟨rfl, rfl, rfl, rfl, rfl⟩ := hrw
            have he1 : (e == 0) = false := beq_eq_false_iff_ne.mpr he
            have he2 : (e != 0) = true := bne_iff_ne.mpr he
            clear HRW hi hgg he
            go_wp2_with fail
            go_meet
            case rel => exact ⟨_, rfl, HI, HB, K4, K7, HV⟩
        · obtain rfl : i = L.length := by omega
          have hltn : decide (L.length < L.length) = false := decide_eq_false (by omega)
          have hltz : decide ((L.length : Int) < (L.length : Int)) = false := decide_eq_false (by omega)
          have hrw := HRW.out
          rw [List.drop_length] at hrw
          have hrw := Option.some.inj hrw
          simp only [Prod.mk.injEq] at hrw
          obtain ⟨rfl, rfl, rfl, rfl, rfl⟩ := hrw
          clear HRW hi hgg
          go_wp2_with fail
          go_meet
          case rel => exact ⟨_, rfl, HI, HB, K4, K7, HV⟩
    case rest =>
      obtain ⟨V, rfl, HI, HB, K4, K7, HV⟩ := hcut
      obtain ⟨Av, cv, hVe⟩ := Kd.R_slice HV.out
      subst hVe
      have hend := HEND.out
      by_cases he : e2 = 0
      · rw [if_pos he] at hend
        subst he
        obtain ⟨⟨d1, sd, ad, ed⟩, hd, hend⟩ := Option.bind_eq_some_iff.mp hend
        have HD := Aside0.mk hd
        simp only at hend
        have HE := Aside0.mk hend
        have h4lt := (Array.getElem?_eq_some_iff.1 K4.out).1
        have h7lt := (Array.getElem?_eq_some_iff.1 K7.out).1
        have H4L := Aside0.mk h4lt; have H7L := Aside0.mk h7lt
        clear hd hend h4lt h7lt HEND
        go_upto_if 57 with (fail)
        go_cut [8] (fun s8 wy => s8 = .int .i64 d1 ∧ Aside0 (Below w.heap.size w wy) ∧ Aside0 (wy.heap[w.heap.size]? = some (.cells #[.bool false, .slice none 0 0] 26 (0, 0))) ∧ Aside0 (wy.heap[b10]? = some (.cells #[.bool gone, .slice Av rows.length cv] 26 (0, 0))) ∧ Aside0 (Kd.R k46 46 wy w.heap.size (fun _ => True) (.slice Av rows.length cv) rows))
        case first =>
          go_wp2_with fail
          refine (tithebarnref01_Cursor_Done.calls g s2 a2 er2 d1 sd ad ed w _ HI.out HB.out HD.out).mono ?_
          rintro x wy ⟨rfl, hS, hB, hK⟩
          have K4y := Aside0.mk ((hK.2 _ H4L.out N4.out (by simp)).trans K4.out)
          have K7y := Aside0.mk ((hK.2 _ H7L.out N7.out.1 (by simp)).trans K7.out)
          have HVy := Aside0.mk (R_keep1 HV.out hK HI.out)
          have HBy := Aside0.mk hB
          clear hS hB hK
          go_wp2_with fail
          go_meet
          exact ⟨rfl, HBy, K4y, K7y, HVy⟩
        case rest =>
          clear K4 K7 HV HI HB HD
          obtain ⟨rfl, HBy, K4y, K7y, HVy⟩ := hcut
          have hend := HE.out
          have hk4 := K4y.out
          have q0 := (blk_cell hk4 0).trans rfl
          have q1 := (blk_cell hk4 1).trans rfl
          have z0 := blk_frozen hk4 0
          have z1 := blk_frozen hk4 1
          clear hk4
          by_cases hd0 : d1 = 0
          · subst hd0
            rw [if_pos (rfl : (0 : Int) = 0)] at hend
            have hend := Option.some.inj hend
            simp only [Prod.mk.injEq] at hend
            obtain ⟨rfl, rfl, rfl⟩ := hend
            have hk7 := K7y.out
            have p0 := (blk_cell hk7 0).trans rfl
            have p1 := (blk_cell hk7 1).trans rfl
            clear hk7
            go_wp2_with fail
            refine bodyPost_ret (v := .tuple #[.agg #[.bool gone, .slice Av rows.length cv], .int .i64 0]) (by simp [results, Tryz.results21, go_sem, q0, q1]) rfl ⟨_, rfl, ?_, ?_⟩
            · exact Kd.R_set (Kd.R_set HVy.out K4y.out (by decide) 0 (.bool gone)) (blk_set K4y.out 0 (.bool gone)) (by decide) 1 (.slice Av rows.length cv)
            · iterate 2 refine Below.setCell ?_ (show w.heap.size ≤ w.heap.size from Nat.le_refl _) _
              exact HBy.out
          · have g1 : (d1 == 0) = false := beq_eq_false_iff_ne.mpr hd0
            have g2 : (d1 != 0) = true := bne_iff_ne.mpr hd0
            rw [if_neg hd0] at hend
            have hend := Option.some.inj hend
            simp only [Prod.mk.injEq] at hend
            obtain ⟨rfl, rfl, rfl⟩ := hend
            clear hd0
            go_wp2_with fail
            refine bodyPost_ret (v := .tuple #[.agg #[.bool false, .slice none 0 0], .int .i64 d1]) (by simp [results, Tryz.results21, go_sem, q0, q1]) rfl ⟨_, rfl, Kd.R_nil _ _ _ _ _, ?_⟩
            iterate 2 refine Below.setCell ?_ (show w.heap.size ≤ w.heap.size from Nat.le_refl _) _
            exact HBy.out
      · rw [if_neg he] at hend
        have g1 : (e2 == 0) = false := beq_eq_false_iff_ne.mpr he
        have g2 : (e2 != 0) = true := bne_iff_ne.mpr he
        have hend := Option.some.inj hend
        simp only [Prod.mk.injEq] at hend
        obtain ⟨rfl, rfl, rfl⟩ := hend
        have hk4 := K4.out
        have q0 := (blk_cell hk4 0).trans rfl
        have q1 := (blk_cell hk4 1).trans rfl
        have z0 := blk_frozen hk4 0
        have z1 := blk_frozen hk4 1
        clear hk4 he HEND
        go_wp2_with fail
        refine bodyPost_ret (v := .tuple #[.agg #[.bool false, .slice none 0 0], .int .i64 e2]) (by simp [results, Tryz.results21, go_sem, q0, q1]) rfl ⟨_, rfl, Kd.R_nil _ _ _ _ _, ?_⟩
        iterate 2 refine Below.setCell ?_ (show w.heap.size ≤ w.heap.size from Nat.le_refl _) _
        exact HB.out
end Go.Proofs.YtojcbknclfamhaaGreatDoor.A
