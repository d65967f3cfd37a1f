/- texts.chosen: so many texts by a dictionary. -/
import Derived.Test.YtimjafjicnlhfaaKrAx0
import Derived.Test.YtimjafjicnlhfaaKrAx2
import Derived.Test.YtimjafjicnlhfaaKrAx4
import Derived.Test.YtimjafjicnlhfaaKrAx5
import Derived.Test.YtimjafjicnlhfaaKrHNumJ
import Derived.Test.YtimjafjicnlhfaaKrHWidth
import Derived.Maps.Own
import Derived.Maps.OwnSet
import Derived.Maps.Views
namespace Go.Proofs.Ytimjafjicnlhfaa.A
open Go.RowKit Go.Proofs.YtimjafjicnlhfaaW.PrintWords Go.Proofs.YtimjafjicnlhfaaW.PrintLast Go.Proofs.YtimjafjicnlhfaaW.PrintMore
open Go.Maps
set_option linter.unusedVariables false
set_option linter.unusedSimpArgs false
def uniq (l : List Int) : List Int := l.foldl (fun acc x => if x ∈ acc then acc else acc ++ [x]) []
theorem uniq_snoc (l : List Int) (x : Int) : uniq (l ++ [x]) = if x ∈ uniq l then uniq l else uniq l ++ [x] := by
  unfold uniq
  rw [List.foldl_append]
  rfl
theorem mem_uniq_aux : ∀ (l acc : List Int) (y : Int), y ∈ l.foldl (fun acc x => if x ∈ acc then acc else acc ++ [x]) acc ↔ y ∈ acc ∨ y ∈ l
  | [], acc, y => by simp
  | x :: l, acc, y => by
    simp only [List.foldl_cons]
    rw [mem_uniq_aux l]
    by_cases h : x ∈ acc
    · rw [if_pos h]
      simp only [List.mem_cons]
      exact ⟨fun h => h.elim .inl (fun h => .inr (.inr h)), fun h' => h'.elim .inl (fun h' => h'.elim (fun e => .inl (e ▸ h)) .inr)⟩
    · rw [if_neg h]
      simp [or_assoc]
theorem mem_uniq (l : List Int) (y : Int) : y ∈ uniq l ↔ y ∈ l := by
  unfold uniq; rw [mem_uniq_aux]; simp
def chooseP (words : List ByteArray) (nums : List Int) (w : Int) : List ByteArray × Int :=
  if (∀ x ∈ nums, x < words.length) ∧ (uniq nums).length = words.length ∧ (widthP nums : Int) = w then (nums.map (fun x => rdOf ByteArray.empty words x), 0) else ([], 4)
def chosenP (n : Nat) (c : Cur) : (List ByteArray × Int) × Cur :=
  if (getOrdP c).1.2 = 0 then
    if (numP n (getOrdP c).2).1.2.2 = 0 then (chooseP (getOrdP c).1.1 (numP n (getOrdP c).2).1.1 (numP n (getOrdP c).2).1.2.1, (numP n (getOrdP c).2).2)
    else (([], (numP n (getOrdP c).2).1.2.2), (numP n (getOrdP c).2).2)
  else (([], (getOrdP c).1.2), (getOrdP c).2)
theorem getI_u64 (s : ByteArray) (p w : Nat) (hw : w ≤ 64) : 0 ≤ getI s p w ∧ getI s p w < 18446744073709551616 := by
  have h := byteOf_range (((bitsS s.data.toList).drop p).take w)
  have hl : (((bitsS s.data.toList).drop p).take w).length ≤ 64 := by rw [List.length_take]; omega
  have hp := pow2_le _ _ hl
  unfold getI
  exact ⟨h.1, Int.lt_of_lt_of_le h.2 (by simpa using hp)⟩
theorem unpackP_u64 (s : ByteArray) (n w : Nat) (hw : w ≤ 64) : U64 (unpackP s n w).1 := by
  unfold unpackP
  split
  · intro x hx
    obtain ⟨i, _, rfl⟩ := List.mem_map.1 hx
    exact getI_u64 s _ w hw
  · intro x hx
    cases hx
theorem unpackP_len (s : ByteArray) (n w : Nat) : (unpackP s n w).1.length ≤ n := by
  unfold unpackP
  split
  · exact Nat.le_of_eq (getAll_length _ _ _)
  · exact Nat.zero_le _
theorem numP_u64 (n : Nat) (c : Cur) : U64 (numP n c).1.1 ∧ (numP n c).1.1.length ≤ n := by
  have hr := byteP_range c
  have hnil : U64 ([] : List Int) := fun x hx => by cases hx
  unfold numP
  by_cases h : (byteP c).2.2 = 0
  · rw [if_pos h]
    by_cases h2 : (byteP c).1 > 64
    · rw [if_pos h2]; exact ⟨hnil, Nat.zero_le _⟩
    · rw [if_neg h2]
      split
      · exact ⟨hnil, Nat.zero_le _⟩
      · exact ⟨unpackP_u64 _ _ _ (by omega), unpackP_len _ _ _⟩
  · rw [if_neg h]; exact ⟨hnil, Nat.zero_le _⟩
theorem ordP_len : ∀ (n : Nat) (l : List ByteArray) (c : Cur), (ordP n l c).1.1.length ≤ l.length + n
  | 0, l, c => by simp [ordP]
  | n + 1, l, c => by
    unfold ordP
    split
    · split
      · have := ordP_len n (l ++ [(textP c).1]) (textP c).2
        rw [List.length_append, List.length_singleton] at this
        omega
      · simp
    · simp
theorem getOrdP_len (c : Cur) : (getOrdP c).1.1.length ≤ 65536 := by
  unfold getOrdP
  have hr := countP_range c
  split
  · have := ordP_len (countP c).1.1.toNat [] (countP c).2
    simp at this
    omega
  · simp
theorem ordP_fit : ∀ (n : Nat) (l : List ByteArray) (c : Cur), Fit c.1 → Fit (ordP n l c).2.1
  | 0, l, c, h => h
  | n + 1, l, c, h => by
    unfold ordP
    split
    · split
      · exact ordP_fit n _ _ (textP_fit c h)
      · exact textP_fit c h
    · exact textP_fit c h
theorem getOrdP_fit (c : Cur) (h : Fit c.1) : Fit (getOrdP c).2.1 := by
  unfold getOrdP
  split
  · exact ordP_fit _ _ _ (countP_fit c h)
  · exact countP_fit c h
theorem R_ne_map {α : Type} {d : Kd α} {e base : Nat} {ok : Nat → Prop} {w : World} {v : Value} {xs : List α} {P : Program} {k : TypeId} {R : Value → Option (DataW Unit × List MemPlace)} {b n : Nat} {D : DataW Unit}
    (h : d.R e w base ok v xs) (hm : w.ownsMap P k R b n D) : some b ≠ v.ownBlock := fun e0 => by
  obtain ⟨i1, o1⟩ := Kd.R_own h
  obtain ⟨c1, a1⟩ := own_typed o1 b e0.symm
  obtain ⟨es, clock, h2, _⟩ := hm
  rw [a1] at h2
  simp at h2
theorem law64 : Keyed Try.prog 38 := int_keyed Try.underlying38
theorem zero64 (w : World) : (zeroValue 3).run Try.prog w = .ok (.int .i64 0) w := by kernel_rfl
set_option maxHeartbeats 8000000 in
set_option maxRecDepth 100000 in
theorem chosen.calls (g n : Nat) (c : Cur) (w0 w : World) (hI : IsS80 w0 w g c.1 c.2) (hB : Below w0.heap.size w0 w) (hn : n ≤ 65536) (hs : Fit c.1) :
    Calls Try.prog 37 #[.pointer (some ⟨g, 0, none⟩), .int .i64 n] w fun e w' => ∃ v0_ : Value, e = .returned (.tuple #[v0_, .int .i64 (chosenP n c).1.2]) ∧ Kd.R Kd.string 9 w' w.heap.size (fun _ => True) v0_ (chosenP n c).1.1 ∧
      IsS80 w0 w' g (chosenP n c).2.1 (chosenP n c).2.2 ∧ Below w0.heap.size w0 w' ∧ KeepBut w w' g none := by
  have hg := texts_getOrdered.calls 600000 g c.1 c.2 _ _ _ _ w0 w hI hB (getOrd_f 600000 c (by decide) hs)
  have hgl := getOrdP_len c
  have hgf := getOrdP_fit c hs
  unfold chosenP
  generalize hq : getOrdP c = q at *
  obtain ⟨⟨words, e1⟩, c1⟩ := q
  simp only at hg hgl hgf ⊢
  have hqq := Aside0.mk hq
  clear hq
  by_cases h1 : e1 = 0
  · rw [if_pos h1]
    subst h1
    have hnu := numP_u64 n c1
    have hnf := num_f 600000 n c1 hn (by decide) hgf
    generalize hq2 : numP n c1 = q2 at *
    obtain ⟨⟨nums, wd, e2⟩, c2⟩ := q2
    simp only at hnu hnf ⊢
    clear hq2
    have HG := Aside0.mk hg; have HNF := Aside0.mk hnf; have HNU := Aside0.mk hnu; have HGL := Aside0.mk hgl; have HN := Aside0.mk hn
    clear hg hnf hnu hI hs hgf hn
    by_cases h2 : e2 = 0
    · rw [if_pos h2]
      subst h2
      go_enter Try.func37, Try.ntmps37
      go_wp2_with fail
      refine HG.out.mono ?_
      rintro e w1 ⟨v1, rfl, hr1, hi1, hb1, hk1⟩
      have hnc := texts_numbers.calls 600000 g c1.1 c1.2 (n : Int) nums wd 0 c2.1 c2.2 w0 w1 hi1 hb1 HNF.out
      have HNC := Aside0.mk hnc; have HR1 := Aside0.mk hr1; have HK1 := Aside0.mk hk1
      have HI1 := Aside0.mk hi1
      clear hnc hr1 hi1 hk1 hb1 HG HNF
      go_wp2_with fail
      refine HNC.out.mono ?_
      rintro e w2 ⟨v2, rfl, hr2, hi2, hb2, hk2⟩
      have hrw := Kd.R_mono (ok' := fun _ => True) (Kd.R_keep (Kd.R_types HR1.out HI1.out.1 (by decide)) hk2 (fun k hk => hk.2)) (fun _ _ => trivial)
      obtain ⟨Aw, cw, rfl, hcw, hCw⟩ := Kd.R_reads hrw
      obtain ⟨An, cn, rfl, hcn, hCn⟩ := Kd.R_reads hr2
      have HI2 := Aside0.mk hi2; have HB2 := Aside0.mk hb2; have HCW := Aside0.mk hCw; have HCN := Aside0.mk hCn
      have HK2 := Aside0.mk (KeepBut.trans HK1.out hk2 (.inl rfl))
      have hmm := @run_makeMap Try.prog
      have hnl : nums.length ≤ 65536 := Nat.le_trans HNU.out.2 HN.out
      have hwl : words.length ≤ 65536 := HGL.out
      have hwz : IntKind.u64.wrap (words.length : Int) = (words.length : Int) := IntWalk.u64_in _ (by omega)
      clear hrw hr2 hi2 hb2 hk2 hCw hCn HR1 HK1 HI1 HNC
      go_wp2_with fail
      have HM2 : Aside0 ((w2.alloc (.map #[] 0)).ownsMap Try.prog 38 (plainElem (H := Unit) Try.prog 3) w2.heap.size 0 (.map [])) := ⟨World.ownsMap_made _ _ _ _⟩
      have HL2 : Aside0 (Below w2.heap.size w2 (w2.alloc (.map #[] 0))) := ⟨(Below.refl _ _).alloc (Nat.le_refl _) _⟩
      generalize w2.alloc (.map #[] 0) = w3 at *
      go_loopg [10, 35] nums.length (fun gg s10 s35 wr => ∃ (j : Nat) (D : DataW Unit), j ≤ nums.length ∧ nums.length - j ≤ gg ∧ s35 = .int .i64 j ∧ Aside0 (Below w2.heap.size w2 wr) ∧ Aside0 (∀ x ∈ nums.take j, x < words.length) ∧
        Aside0 (Kd.R Kd.string 9 wr w2.heap.size (fun _ => True) s10 ((nums.take j).map (fun x => rdOf ByteArray.empty words x))) ∧ Aside0 (wr.ownsMap Try.prog 38 (plainElem (H := Unit) Try.prog 3) w2.heap.size j D) ∧
        Aside0 (Tidy D) ∧ Aside0 (∀ x, has D (.int .u64 x) = decide (x ∈ nums.take j)) ∧ Aside0 (Maps.size D = (uniq (nums.take j)).length))
      case atStart =>
        refine ⟨0, .map [], by omega, by omega, rfl, HL2, ⟨fun x hx => by simp at hx⟩, ⟨by simpa using Kd.R_nil Kd.string 9 w3 w2.heap.size (fun _ => True)⟩, HM2, ⟨tidy_empty⟩, ⟨fun x => by simp [has]⟩, ⟨by simp [uniq, Maps.size]⟩⟩
      case round =>
        obtain ⟨j, D, hj, hgg, rfl, HL3, HX3, HR3, HM3, HT3, HH3, HS3⟩ := hrel
        obtain ⟨A3, c3, hv3⟩ := Kd.R_slice HR3.out
        rw [List.length_map, List.length_take, Nat.min_eq_left hj] at hv3
        subst hv3
        by_cases hlt : j < nums.length
        · have hltn : decide (j < nums.length) = true := decide_eq_true hlt
          have hltz : decide ((j : Int) < (nums.length : Int)) = true := decide_eq_true (by omega)
          obtain ⟨ad, e, hx⟩ := Kd.at_int HCN.out (j : Int) (by omega) (by omega)
          cases e
          replace hx := (HL3.out.cell (World.block_lt_of_cell? w2 _ hx)).trans hx
          rw [Int.toNat_natCast] at hx
          have hxe : rd nums (j : Int) = nums[j] := by simp [rd, hlt]
          have hxr := HNU.out.1 _ (List.getElem_mem hlt)
          have htake : nums.take (j + 1) = nums.take j ++ [rd nums (j : Int)] := by rw [List.take_add_one, List.getElem?_eq_getElem hlt, hxe]; rfl
          rw [← hxe] at hxr
          have hmem : rd nums (j : Int) ∈ nums := by rw [hxe]; exact List.getElem_mem hlt
          have HTK := Aside0.mk htake; have HMEM := Aside0.mk hmem; have HJ := Aside0.mk (And.intro hj (And.intro hgg hlt))
          generalize rd nums (j : Int) = x at *
          have hpj : IntKind.i64.wrap ((j : Int) + 1) = (j : Int) + 1 := IntWalk.i64_in _ (by omega)
          have hjT : ((j : Int) < (nums.length : Int)) = True := eq_true (by omega)
          clear htake hxe hmem hlt hj hgg
          by_cases hxl : x < (words.length : Int)
          · have g1 : decide ((words.length : Int) ≤ x) = false := decide_eq_false (by omega)
            have hx0 : ((0 : Int) ≤ x) = True := eq_true hxr.1
            have hx1 : (x < (words.length : Int)) = True := eq_true hxl
            obtain ⟨adw, e, hy⟩ := Kd.at_string HCW.out x hxr.1 hxl
            cases e
            have hkey : keyOf Try.prog 38 (.int .u64 x) = some (.int .u64 x) := keyOf_int_mk Try.underlying38 (WalkArith.wf_u64 (by omega))
            have HNB := Aside0.mk (show ¬ (adw.add x.toNat).block = w2.heap.size from fun e => by have := World.block_lt_of_cell? w2 _ hy; omega)
            replace hy := (HL3.out.cell (World.block_lt_of_cell? w2 _ hy)).trans hy
            have HXL := Aside0.mk hxl; have HXR := Aside0.mk hxr
            clear hxl hxr
            go_wp2_with (first
              | (at_lookup; refine wpList_lookup_own_int _ rfl _ _ 85 rfl 38 3 .i64 law64 Try.underlying85 Try.underlying3 (zero64 _) w2.heap.size j _ rfl HM3.out _ _ rfl hkey ?_; intro c4 hat4 hwc4)
              | (at_mapUpdate; refine wpList_mapUpdate_own _ rfl _ _ _ 85 rfl 38 3 law64 Try.underlying85 _ w2.heap.size j _ rfl HM3.out (by unfold maxLen; have := HJ.out; omega) _ _ _ rfl rfl hkey _ [] (plainElem_int Try.underlying3 (wrap64_wf _)) ?_; intro w4 hown4 hgrow4; (have hy4 := hgrow4.cell hy (fun e => HNB.out (Option.some.inj e))); (have HR4 := Aside0.mk (Kd.R_grown2 HR3.out rfl hgrow4 (fun k hk => by cases hk; exact R_ne_map HR3.out HM3.out))); (have HM4 := Aside0.mk hown4); (have HL4 := Aside0.mk (HL3.out.grown hgrow4 HL3.out.size (fun j hj => by cases hj; exact Nat.le_refl _))); clear hown4 hgrow4 hy)
              | (at_builtin; refine Kd.R_append Kd.string (w0 := w2) w2.heap.size rfl (.tmp 48) (.tmp 53) 22 9 (.string ⟨#[]⟩) 16 rfl Try.underlying22 info9 rfl (by decide) (by omega) (.slice A3 j c3) ((nums.take j).map (fun x => rdOf ByteArray.empty words x)) (rdOf ByteArray.empty words x) [.string (rdOf ByteArray.empty words x)] (fun _ => True) (fun _ => False) rfl rfl rfl (fun _ hk => hk.elim) (fun _ _ => trivial) HR4.out HL4.out HL4.out.size (by rw [List.length_map, List.length_take]; have := HJ.out; omega) ?_; intro v5 w5 ho hb hgr hat2; (have HM5 := Aside0.mk (HM4.out.kept hgr (R_ne_map HR4.out HM4.out))); (have HR5 := Aside0.mk ho); (have HL5 := Aside0.mk hb); clear ho hb hgr hat2)
              | go_in)
            go_roundg (nums.length - (j + 1))
            case measure => have := HJ.out; omega
            case rel =>
              have hk : WideAt.IsKeyLit (.int .u64 x) := trivial
              refine ⟨j + 1, D.put (.int .u64 x) (.lit (.int .i64 (wrap64 (c4 + 1)))), HJ.out.2.2, by have := HJ.out; omega, by push_cast; rfl, HL5, ⟨?_⟩, ⟨?_⟩, HM5, ⟨HT3.out.put hk _⟩, ⟨?_⟩, ⟨?_⟩⟩
              · intro y hy
                rw [HTK.out, List.mem_append, List.mem_singleton] at hy
                rcases hy with hy | rfl
                · exact HX3.out y hy
                · exact HXL.out
              · rw [HTK.out, List.map_append]
                exact HR5.out
              · intro y
                rw [HTK.out]
                by_cases hyx : y = x
                · subst hyx
                  rw [has_put_same HT3.out.isMap hk]
                  simp
                · rw [has_put_other (fun e => hyx (by injection e)), HH3.out y]
                  simp [hyx]
              · rw [HTK.out, uniq_snoc, size_put HT3.out, HH3.out x, HS3.out]
                by_cases hm : x ∈ nums.take j
                · rw [if_pos ((mem_uniq _ _).2 hm), if_pos (by simpa using hm)]
                · rw [if_neg (fun h => hm ((mem_uniq _ _).1 h)), if_neg (by simpa using hm), List.length_append]
                  rfl
          · have g1 : decide ((words.length : Int) ≤ x) = true := decide_eq_true (by omega)
            have hch : chooseP words nums wd = ([], 4) := if_neg (fun h => hxl (h.1 x HMEM.out))
            have HCH := Aside0.mk hch
            clear hxl hxr hch
            go_wp2_with fail
            go_ret2
            rw [HCH.out]
            exact ⟨_, rfl, Kd.R_nil _ _ _ _ _, HI2.out.below HL3.out, HB2.out.trans (HL3.out.mono HB2.out.size), KeepBut.trans HK2.out (KeepBut.of_below HL3.out _ _) (.inl rfl)⟩
        · have hje : j = nums.length := by omega
          subst hje
          rw [List.take_length] at HX3 HR3 HH3 HS3
          have hltn : decide (nums.length < nums.length) = false := decide_eq_false (by omega)
          have hltz : decide ((nums.length : Int) < (nums.length : Int)) = false := decide_eq_false (by omega)
          have hwc := fun W (hb : Below w2.heap.size w2 W) => bits_Width.calls 600000 An cn nums ((widthP nums : Nat) : Int) W (Kd.C_below HCN.out hb) hcn (width_f 600000 nums HNU.out.1 (by omega) (by omega))
          have HWC := Aside0.mk hwc
          clear hwc
          by_cases hsz : (uniq nums).length = words.length
          · have hs1 : ((Maps.size D : Int) == (words.length : Int)) = true := by rw [HS3.out]; simp [hsz]
            have hs2 : ((Maps.size D : Int) != (words.length : Int)) = false := by rw [HS3.out]; simp [hsz]
            generalize hwv : ((widthP nums : Nat) : Int) = wv at *
            have HSZ := Aside0.mk hsz; have HWV := Aside0.mk hwv
            clear hsz hwv
            by_cases hwd : wv = wd
            · have hs3 : (wv == wd) = true := beq_iff_eq.mpr hwd
              have hs4 : (wv != wd) = false := bne_eq_false_iff_eq.mpr hwd
              have hch : chooseP words nums wd = (nums.map (fun x => rdOf ByteArray.empty words x), 0) := if_pos ⟨HX3.out, HSZ.out, HWV.out.trans hwd⟩
              have HCH := Aside0.mk hch
              clear hwd hch
              go_wp2_with (first | (at_len; refine wpList_len_own _ rfl _ 85 rfl 38 3 Try.underlying85 _ w2.heap.size nums.length D rfl HM3.out ?_) | (go_at_call 24; refine (HWC.out _ HL3.out).mono ?_; rintro e w6 ⟨rfl, ⟨q6, rfl⟩⟩) | go_in)
              go_ret2
              rw [HCH.out]
              exact ⟨_, rfl, Kd.R_drewN (Kd.R_lower HR3.out (keep_size HK2.out)) _, (HI2.out.below HL3.out).drewN _, pw_below_drewN (HB2.out.trans (HL3.out.mono HB2.out.size)) _, keep_drewN (KeepBut.trans HK2.out (KeepBut.of_below HL3.out _ _) (.inl rfl)) _⟩
            · have hs3 : (wv == wd) = false := beq_eq_false_iff_ne.mpr hwd
              have hs4 : (wv != wd) = true := bne_iff_ne.mpr hwd
              have hch : chooseP words nums wd = ([], 4) := if_neg (fun h => hwd (HWV.out.symm.trans h.2.2))
              have HCH := Aside0.mk hch
              clear hwd hch
              go_wp2_with (first | (at_len; refine wpList_len_own _ rfl _ 85 rfl 38 3 Try.underlying85 _ w2.heap.size nums.length D rfl HM3.out ?_) | (go_at_call 24; refine (HWC.out _ HL3.out).mono ?_; rintro e w6 ⟨rfl, ⟨q6, rfl⟩⟩) | go_in)
              go_ret2
              rw [HCH.out]
              exact ⟨_, rfl, Kd.R_nil _ _ _ _ _, (HI2.out.below HL3.out).drewN _, pw_below_drewN (HB2.out.trans (HL3.out.mono HB2.out.size)) _, keep_drewN (KeepBut.trans HK2.out (KeepBut.of_below HL3.out _ _) (.inl rfl)) _⟩
          · have hs1 : ((Maps.size D : Int) == (words.length : Int)) = false := by rw [HS3.out]; simp; omega
            have hs2 : ((Maps.size D : Int) != (words.length : Int)) = true := by rw [HS3.out]; simp; omega
            have hch : chooseP words nums wd = ([], 4) := if_neg (fun h => hsz h.2.1)
            have HCH := Aside0.mk hch
            clear hsz hch
            go_wp2_with (first | (at_len; refine wpList_len_own _ rfl _ 85 rfl 38 3 Try.underlying85 _ w2.heap.size nums.length D rfl HM3.out ?_) | (go_at_call 24; refine (HWC.out _ HL3.out).mono ?_; rintro e w6 ⟨rfl, ⟨q6, rfl⟩⟩) | go_in)
            go_ret2
            rw [HCH.out]
            exact ⟨_, rfl, Kd.R_nil _ _ _ _ _, HI2.out.below HL3.out, HB2.out.trans (HL3.out.mono HB2.out.size), KeepBut.trans HK2.out (KeepBut.of_below HL3.out _ _) (.inl rfl)⟩
    · rw [if_neg h2]
      have g1 : (e2 == 0) = false := beq_eq_false_iff_ne.mpr h2
      have g2 : (e2 != 0) = true := bne_iff_ne.mpr h2
      clear h2
      go_enter Try.func37, Try.ntmps37
      go_wp2_with fail
      refine HG.out.mono ?_
      rintro e w1 ⟨v1, rfl, hr1, hi1, hb1, hk1⟩
      have hnc := texts_numbers.calls 600000 g c1.1 c1.2 (n : Int) nums wd e2 c2.1 c2.2 w0 w1 hi1 hb1 HNF.out
      have HNC := Aside0.mk hnc; have HK1 := Aside0.mk hk1
      clear hnc hr1 hi1 hk1 hb1 HG HNF
      go_wp2_with fail
      refine HNC.out.mono ?_
      rintro e w2 ⟨v2, rfl, hr2, hi2, hb2, hk2⟩
      have HI2 := Aside0.mk hi2; have HB2 := Aside0.mk hb2
      have HK2 := Aside0.mk (KeepBut.trans HK1.out hk2 (.inl rfl))
      clear hr2 hi2 hb2 hk2 HK1 HNC
      go_wp2_with fail
      go_ret2
      exact ⟨_, rfl, Kd.R_nil _ _ _ _ _, HI2.out, HB2.out, HK2.out⟩
  · rw [if_neg h1]
    have HG := Aside0.mk hg
    have g1 : (e1 == 0) = false := beq_eq_false_iff_ne.mpr h1
    have g2 : (e1 != 0) = true := bne_iff_ne.mpr h1
    clear hg hI hs hgf hn h1
    go_enter Try.func37, Try.ntmps37
    go_wp2_with fail
    refine HG.out.mono ?_
    rintro e w1 ⟨v1, rfl, hr1, hi1, hb1, hk1⟩
    have HI1 := Aside0.mk hi1; have HB1 := Aside0.mk hb1; have HK1 := Aside0.mk hk1
    clear hr1 hi1 hb1 hk1 HG
    go_wp2_with fail
    go_ret2
    exact ⟨_, rfl, Kd.R_nil _ _ _ _ _, HI1.out, HB1.out, HK1.out⟩
end Go.Proofs.Ytimjafjicnlhfaa.A
