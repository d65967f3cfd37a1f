/- The reference's Crash. doesRef: a step of the reference's disk. -/
import Derived.Test.YtephblclhojffaaAx0
import Derived.Test.YtephblclhojffaaAx1
import Derived.Test.YtephblclhojffaaHRefD
import Derived.Test.YtephblclhojffaaHInv
import Derived.Test.YtephblclhojffaaHDoes
namespace Go.Proofs.Ytephblclhojffaa.A
open Go.RowKit Go.Proofs.YtephblclhojffaaW.PrintWords Go.Proofs.YtephblclhojffaaW.PrintLast Go.Proofs.YtephblclhojffaaW.PrintMore
set_option linter.unusedVariables false
set_option linter.unusedSimpArgs false

section
variable {w w' : World} {own : Nat → Prop} {rb : Nat} {fv dv sv cv : Value} {M M' : DM}
/-- What the reference's crash counts on. -/
structure CrR (M : DM) : Prop where
  ri : Rising M.sdir
  ch : ∀ c ∈ M.chg, ChgR2 c
  dl : ∀ k, (replay M.sdir (M.chg.take k)).length < 100000
  dn : ∀ k, NamesLe (replay M.sdir (M.chg.take k))
  dv : ∀ k, ∀ p ∈ replay M.sdir (M.chg.take k), p.2 < M.files.length
  cl : M.chg.length < 100000
  fl : M.files.length < 100000
  su : SureOk M.files
  fi : Fits M 1099511627776
theorem rd90_at (cs : List Chg) (k : Nat) (hk : k < cs.length) : rd_T90 (cs.map c90) (k : Int) = c90 cs[k] := by
  unfold rd_T90
  rw [Int.toNat_natCast]
  simp [hk]
theorem take_exit {cs : List Chg} {k : Nat} {n : Int} (hk : k ≤ cs.length) (hn : (k : Int) ≤ max n 0) (h : n ≤ k ∨ k = cs.length) : cs.take k = cs.take n.toNat := by
  rcases h with h | h
  · congr 1; omega
  · rw [h, List.take_length, List.take_of_length_le (by omega)]
theorem f77_both {l : List F77} {g n cap : Nat} (h : Kd.R k77 77 w 0 own (.slice (some ⟨g, 0, none⟩) n cap) l) (q : Nat) (hq : q < n) (s : ByteArray) (x : Int) :
    Kd.R k77 77 ((w.setCell ⟨g, q * 2, none⟩ (.string s)).setCell ⟨g, q * 2 + 1, none⟩ (.int .i64 x)) 0 own (.slice (some ⟨g, 0, none⟩) n cap) (l.set q ⟨s, x⟩) ∧ w.grownBy ((w.setCell ⟨g, q * 2, none⟩ (.string s)).setCell ⟨g, q * 2 + 1, none⟩ (.int .i64 x)) (some g) := by
  obtain ⟨c, hcl, hM, hcc, hf⟩ := Kd.R_elem h z77 (q : Int) (by omega) (by omega)
  obtain rfl := k77_openM hM
  have := Kd.R_seg (x' := ⟨s, x⟩) (okp := fun _ => False) (seg := [.string s, .int .i64 x]) (j := 0) h (q : Int) (by omega) (by omega) hcl hcc (by show 0 + 2 ≤ 2; omega) (k77_mkM _ _ _ _) (fun _ h => h.elim)
  rw [Int.toNat_natCast] at this
  exact this
theorem bs_cut (s : ByteArray) (k : Nat) : s.extract 0 k = bsS (s.data.toList.take k) := by
  apply ByteArray.ext
  apply Array.ext'
  simp [bsS]
/-- What the round leaves. -/
theorem cut_next {d : Dir} {q f m nn : Nat} {keep : List Int} {F : List (Bs × Nat)} {fs : ByteArray} {su : Nat} (hq : q < d.length) (hf : f = (d.getD q ([], 0)).2) (hfl : f < (cutAll keep 0 (d.take q) F).length) (hm : m = moreF keep q) (hfs : fs = bsS ((cutAll keep 0 (d.take q) F).getD f ([], 0)).1) (hsu : su = ((cutAll keep 0 (d.take q) F).getD f ([], 0)).2) (hnn : nn = su + min m (fs.size - su)) :
    (cutAll keep 0 (d.take (q + 1)) F).map f77 = ((cutAll keep 0 (d.take q) F).map f77).set f ⟨fs.extract 0 nn, (nn : Int)⟩ := by
  have e : d.getD q ([], 0) = d[q] := by simp [hq]
  rw [e] at hf
  rw [cutAll_succ keep d q hq F, ← hf, map_modify _ f hfl, ← hm]
  congr 1
  have hsz : fs.size = ((cutAll keep 0 (d.take q) F).getD f ([], 0)).1.length := by rw [hfs, bsS_size]
  have hl : fs.data.toList = ((cutAll keep 0 (d.take q) F).getD f ([], 0)).1 := by rw [hfs, bsS_list]
  rw [bs_cut, hl, hnn, hsz, hsu]
  rfl
set_option maxRecDepth 100000 in
set_option maxHeartbeats 16000000 in
theorem rCrash.calls (h : RefR w own rb fv dv sv cv M) (hB : CrR M) (n : Int) (hn : n ≤ 9223372036854775807) (A : Option Addr) (c : Nat) (keep : List Int) (HK : ∀ W, Only w W own → Kd.C (Kd.int .i64) W A keep.length keep) (hcap : keep.length ≤ c) :
    Calls Try.prog 50 #[.pointer (some ⟨rb, 0, none⟩), .int .i64 n, .slice A keep.length c] w fun e w' => e = .returned (.tuple #[]) ∧ WentR w w' own rb (crashF M n keep) := by
  have hu77 := Try.underlying77
  have hu90 := Try.underlying90
  obtain ⟨A2, c2, hsv, -, -⟩ := Kd.R_reads h.sdir
  obtain ⟨A3, c3, hcv, hcc3, hC3⟩ := Kd.R_reads h.chg
  rw [List.length_map] at hcv hC3
  subst hsv hcv
  have k2 := cells_of h.blk 2 rfl
  have k3 := cells_of h.blk 3 rfl
  have HH := Aside0.mk h; have HC3 := Aside0.mk hC3; have HBB := Aside0.mk hB; have HKK := Aside0.mk HK; have HCAP := Aside0.mk hcap; have HN := Aside0.mk hn; have HK3 := Aside0.mk k3
  have HR0 : Aside0 (Kd.R k79 79 w 0 (fun k => own k ∨ w.heap.size ≤ k) (.slice A2 (dirS M.sdir).length c2) (dirS (replay M.sdir (M.chg.take 0)))) := ⟨Kd.R_mono h.sdir (fun k hk => .inl hk)⟩
  have HB0 := Aside0.mk (Below.refl w.heap.size w)
  have hcl := hB.cl
  clear h hC3 hB HK hcap hn hcc3
  go_enter Try.func50, Try.ntmps50
  go_wp2_with fail
  go_loopw [6, 7] (fun v i wr => ∃ k : Nat, k ≤ M.chg.length ∧ (k : Int) ≤ max n 0 ∧ i = .int .i64 k ∧ Aside0 (Below w.heap.size w wr) ∧ Aside0 (Kd.R k79 79 wr 0 (fun k => own k ∨ w.heap.size ≤ k) v (dirS (replay M.sdir (M.chg.take k))))) (fun _ i _ => M.chg.length - (intOf i).toNat)
  case atStart => exact ⟨0, Nat.zero_le _, by omega, rfl, HB0, HR0⟩
  case round =>
    clear HR0 HB0
    obtain ⟨k, hk, hkn, rfl, HBW, HRV⟩ := hrel
    have hrv := HRV.out
    obtain ⟨A6, c6, rfl, hc6, hC6⟩ := Kd.R_reads hrv
    have HC6 := Aside0.mk hC6
    have kk3 := pw_cell_below HBW.out HK3.out
    clear hrv hc6 hC6
    by_cases h1 : (k : Int) < n
    · have hd1 : decide ((k : Int) < n) = true := decide_eq_true h1
      by_cases h2 : k < M.chg.length
      · have hd2 : decide ((k : Int) < (M.chg.length : Int)) = true := decide_eq_true (by omega)
        obtain ⟨a3, e3, x0, x1, x2⟩ := at_T90 (Kd.C_below HC3.out HBW.out) (k : Int) (by omega) (by omega)
        rw [rd90_at M.chg k h2, Int.toNat_natCast] at x0 x1 x2
        subst e3
        have hap := rApply.calls (rising_replay (M.chg.take k) HBB.out.ri) (HBB.out.dl k) (HBB.out.dn k) M.chg[k] (HBB.out.ch _ (List.getElem_mem h2)) (fun p hp => by have h5 := HBB.out.dv k p hp; have h6 := HBB.out.fl; omega) wr HRV.out
        have HSN := Aside0.mk (show replay M.sdir (M.chg.take (k + 1)) = Chg.app (replay M.sdir (M.chg.take k)) M.chg[k] by rw [List.take_succ_eq_append_getElem h2, replay_snoc])
        generalize M.chg[k] = ch at *
        have H1 := Aside0.mk h1; have H2 := Aside0.mk h2
        have b0 : 0 ≤ (k : Int) := by omega
        have b1 : (k : Int) < (M.chg.length : Int) := by omega
        have HS := Aside0.mk HBW.out.size
        go_wp2_with fail
        refine hap.mono ?_
        rintro e w3 ⟨v3, rfl, hr3, hb3⟩
        have HB3 := Aside0.mk (HBW.out.trans (hb3.mono HS.out))
        have HR3 : Aside0 (Kd.R k79 79 w3 0 (fun k => own k ∨ w.heap.size ≤ k) v3 (dirS (replay M.sdir (M.chg.take (k + 1))))) := ⟨by
          rw [HSN.out]
          exact Kd.R_mono hr3 (fun j hj => by rcases hj with hj | hj; exact hj; exact .inr (Nat.le_trans HS.out hj))⟩
        clear hr3 hb3 hap x0 x1 x2
        go_wp2_with fail
        go_roundw
        case rel => exact ⟨k + 1, by have := H2.out; omega, by have := H1.out; omega, by go_num, HB3, HR3⟩
        case measure => simp [intOf]; have := H2.out; omega
      · have hd2 : decide ((k : Int) < (M.chg.length : Int)) = false := decide_eq_false (by omega)
        have hT := take_exit (cs := M.chg) (k := k) (n := n) hk hkn (.inr (by omega))
        have H1 := HH.out.below HBW.out
        obtain ⟨l, hl⟩ : ∃ l, l = replay M.sdir (M.chg.take n.toNat) := ⟨_, rfl⟩
        obtain ⟨L, hL⟩ : ∃ L, L = l.length := ⟨_, rfl⟩
        have hlen6 : (dirS (replay M.sdir (M.chg.take k))).length = L := by rw [hT, ← hl, hL]; exact dirS_len l
        have HL79 : Aside0 (Kd.R k79 79 wr 0 (fun k => own k ∨ w.heap.size ≤ k) (.slice A6 L c6) (dirS l)) := ⟨by have h := HRV.out; rw [hlen6] at h; rw [hT, ← hl] at h; exact h⟩
        have HCD : Aside0 (Kd.C k79 wr A6 L (dirS l)) := ⟨by have h := HC6.out; rw [hlen6] at h; rw [hT, ← hl] at h; exact h⟩
        have HLQ := Aside0.mk hl
        have HLL := Aside0.mk hL
        have hLl : L < 100000 := by rw [hL, hl]; exact HBB.out.dl n.toNat
        rw [hlen6]
        clear HRV HC6
        have HS0 : Aside0 (RefR wr own rb fv dv (.slice A2 (dirS M.sdir).length c2) (.slice A3 M.chg.length c3) { M with files := cutAll keep 0 (l.take 0) M.files } ∧ Only w wr own ∧ Kd.R k79 79 wr 0 (fun k => own k ∨ w.heap.size ≤ k) (.slice A6 L c6) (dirS l)) := ⟨H1, Only.of_below HBW.out own, HL79.out⟩
        obtain ⟨wo, rfl⟩ : ∃ wo, wo = wr := ⟨_, rfl⟩
        clear H1 hT hl hL hlen6 
        go_wp2_with fail
        go_loopw [8] (fun i wr => ∃ q : Nat, q ≤ L ∧ i = .int .i64 q ∧ Aside0 (RefR wr own rb fv dv (.slice A2 (dirS M.sdir).length c2) (.slice A3 M.chg.length c3) { M with files := cutAll keep 0 (l.take q) M.files } ∧ Only w wr own ∧ Kd.R k79 79 wr 0 (fun k => own k ∨ w.heap.size ≤ k) (.slice A6 L c6) (dirS l))) (fun i _ => L - (intOf i).toNat)
        case atStart => exact ⟨0, Nat.zero_le _, rfl, HS0⟩
        case round =>
          clear HS0
          obtain ⟨q, hq, rfl, HS⟩ := hrel
          by_cases hlt : q < L
          · obtain ⟨hRef, hOn, hRow⟩ := HS.out
            have hqd : q < l.length := by rw [← HLL.out]; exact hlt
            obtain ⟨f, hf⟩ : ∃ f, f = (l.getD q ([], 0)).2 := ⟨_, rfl⟩
            have hfl : f < M.files.length := by
              rw [hf]
              have hmem : l.getD q ([], 0) ∈ l := by rw [List.getD_eq_getElem?_getD, List.getElem?_eq_getElem hqd]; exact List.getElem_mem hqd
              rw [HLQ.out] at hmem ⊢
              exact HBB.out.dv n.toNat _ hmem
            have hFl : (cutAll keep 0 (l.take q) M.files).length = M.files.length := cutAll_len keep _ 0 _
            have hSO : SureOk (cutAll keep 0 (l.take q) M.files) := SureOk.cutAll HBB.out.su (fun p hp => by have h5 := List.mem_of_mem_take hp; rw [HLQ.out] at h5; exact HBB.out.dv n.toNat p h5)
            have hsu := hSO f
            have hMV : ∀ f : Nat, rd77 ((cutAll keep 0 (l.take q) M.files).map f77) (f : Int) = ⟨bsS ((cutAll keep 0 (l.take q) M.files).getD f ([], 0)).1, (((cutAll keep 0 (l.take q) M.files).getD f ([], 0)).2 : Int)⟩ := fun f => rd77_at { M with files := cutAll keep 0 (l.take q) M.files } f
            obtain ⟨A0, c0v, hfv, hc0, -⟩ := Kd.R_reads hRef.files
            have hlen : (({ M with files := cutAll keep 0 (l.take q) M.files } : DM).files.map f77).length = M.files.length := by rw [List.length_map]; exact hFl
            rw [hlen] at hfv hc0
            obtain ⟨g, hgA⟩ : ∃ g, A0 = some ⟨g, 0, none⟩ := by
              obtain ⟨ad, c', e⟩ := Kd.R_slice1 hRef.files (by rw [hlen]; omega)
              rw [hfv] at e
              injection e with e1 _ _
              have h5 := hRef.files
              rw [hfv, e1] at h5
              obtain ⟨g, hh⟩ := Kd.R_head h5
              exact ⟨g, by rw [e1, hh]⟩
            subst hgA
            have hfi := hRef.files
            rw [hfv] at hfi
            obtain ⟨x0, x1, y0, y1⟩ := f77_elem hfi f hfl
            rw [show ({ M with files := cutAll keep 0 (l.take q) M.files } : DM).files = cutAll keep 0 (l.take q) M.files from rfl, hMV] at x0 x1
            simp only at x0 x1
            have k0 := cells_of hRef.blk 0 rfl
            rw [show #[fv, dv, Value.slice A2 (dirS M.sdir).length c2, Value.slice A3 M.chg.length c3, Value.int .i64 M.space, .int .i64 (negR M.halt), .int .i64 (negR M.deny), .int .i64 M.calls][0] = fv from rfl, hfv] at k0
            obtain ⟨A7, c7, e7, hc7, hC7⟩ := Kd.R_reads hRow
            have hdl : (dirS l).length = L := by rw [dirS_len, HLL.out]
            rw [hdl] at e7 hC7
            simp only [Value.slice.injEq] at e7
            obtain ⟨rfl, -, rfl⟩ := e7
            obtain ⟨a1, e1, d0, d1⟩ := at_T79 hC7 (q : Int) (by omega) (by omega)
            rw [dirS_at, Int.toNat_natCast] at d0 d1
            simp only [← hf] at d0 d1
            subst e1
            have hszf := bsS_size ((cutAll keep 0 (l.take q) M.files).getD f ([], 0)).1
            rw [← hszf] at hsu
            have b0 : 0 ≤ (q : Int) := by omega
            have b1 : (q : Int) < (L : Int) := by omega
            have b2 : 0 ≤ (f : Int) := by omega
            have b3 : (f : Int) < (M.files.length : Int) := by omega
            have HRef := Aside0.mk hRef; have HOn := Aside0.mk hOn; have HRow := Aside0.mk hRow; have HF := Aside0.mk hf; have HLT := Aside0.mk hlt; have HMV := Aside0.mk hMV; have HFL := Aside0.mk hfl
            have HFS := Aside0.mk hszf
            clear hRef hOn hRow hf hlt hMV hSO hFl hfl hlen hC7 hc7 hc0 hdl hqd hszf
            obtain ⟨fs, hfs⟩ : ∃ s, s = bsS ((cutAll keep 0 (l.take q) M.files).getD f ([], 0)).1 := ⟨_, rfl⟩
            obtain ⟨su, hsu0⟩ : ∃ s, s = ((cutAll keep 0 (l.take q) M.files).getD f ([], 0)).2 := ⟨_, rfl⟩
            rw [← hfs] at x0 hsu
            rw [← hsu0] at x1 hsu
            have HFSQ := Aside0.mk hfs; have HSUQ := Aside0.mk hsu0
            clear hfs hsu0
            go_wp2_with fail
            go_region_held3 (fun w' => w'.cell? ⟨rb, 0, none⟩ = some (.slice (some ⟨g, 0, none⟩) M.files.length c0v) ∧ w'.cell? ⟨(a1.add (q * 2)).block, (a1.add (q * 2)).off + 1, none⟩ = some (.int .i64 f) ∧ w'.cell? ⟨g, f * 2, none⟩ = some (.string fs) ∧ w'.cell? ⟨g, f * 2 + 1, none⟩ = some (.int .i64 su))
              ((repeat' apply And.intro) <;> (first | assumption | go_keep))
              (first | fail)
            obtain ⟨W1, hW1⟩ : ∃ W, W = (wr.alloc (Obj.cells #[.string fs, .int .i64 su] 77 (0, 0))).drew := ⟨_, rfl⟩
            have hbW : Below wr.heap.size wr W1 := by rw [hW1]; exact below_drew ((Below.refl _ _).alloc (Nat.le_refl _) _)
            have hcW : W1.heap[wr.heap.size]? = some (Obj.cells #[.string fs, .int .i64 su] 77 (0, 0)) := by rw [hW1]; exact heap_alloc wr _
            rw [← hW1]
            clear hW1
            have z0 := cells_of hcW 0 rfl
            have z1 := cells_of hcW 1 rfl
            have R1 := HRef.out.below hbW
            have r1f := R1.files
            rw [hfv] at r1f
            have w0 := pw_cell_below hbW k0
            have w1 := pw_cell_below hbW d1
            obtain ⟨v0, v1, u0, u1⟩ := f77_elem r1f f HFL.out
            have hkr := HKK.out W1 (HOn.out.trans (Only.of_below hbW own) (fun _ _ h => h))
            have HNXT : Aside0 (∀ nn : Nat, nn = su + min (moreF keep q) (fs.size - su) → RefR ((W1.setCell ⟨g, f * 2, none⟩ (.string (fs.extract 0 nn))).setCell ⟨g, f * 2 + 1, none⟩ (.int .i64 (nn : Int))) own rb fv dv (.slice A2 (dirS M.sdir).length c2) (.slice A3 M.chg.length c3) { M with files := cutAll keep 0 (l.take (q + 1)) M.files } ∧ W1.grownBy ((W1.setCell ⟨g, f * 2, none⟩ (.string (fs.extract 0 nn))).setCell ⟨g, f * 2 + 1, none⟩ (.int .i64 (nn : Int))) (some g)) := ⟨fun nn hnn => by
              have hb := f77_both r1f f HFL.out (fs.extract 0 nn) (nn : Int)
              have hnx := cut_next (by rw [← HLL.out]; exact HLT.out) HF.out (by rw [cutAll_len]; exact HFL.out) rfl HFSQ.out HSUQ.out hnn (F := M.files) (keep := keep)
              have h5 := R1
              rw [hfv] at h5 ⊢
              exact ⟨(h5.fileSet hb.2 _ (by rw [hnx]; exact hb.1)).1, hb.2⟩⟩
            have hfsz : fs.size ≤ 1099511627776 := by rw [HFSQ.out, bsS_size]; exact cutAll_fits HBB.out.su (fun p hp => by have h5 := List.mem_of_mem_take hp; rw [HLQ.out] at h5; exact HBB.out.dv n.toNat p h5) HBB.out.fi f
            obtain ⟨r0, hr0⟩ : ∃ r0 : Nat, r0 = fs.size - su := ⟨_, rfl⟩

            by_cases hkl : keep.length = 0
            · obtain ⟨nn, hnn0⟩ : ∃ nn : Nat, nn = su := ⟨_, rfl⟩
              have hnn : nn = su + min (moreF keep q) (fs.size - su) := by unfold moreF; rw [if_pos hkl]; omega
              obtain ⟨hN, hG⟩ := HNXT.out nn hnn
              have c0 := cells_of hN.blk 0 rfl
              have c0' : ((W1.setCell ⟨g, f * 2, none⟩ (.string (fs.extract 0 nn))).setCell ⟨g, f * 2 + 1, none⟩ (.int .i64 (nn : Int))).cell? ⟨rb, 0, none⟩ = some (.slice (some ⟨g, 0, none⟩) M.files.length c0v) := by rw [← hfv]; exact c0
              have row1 := Kd.R_below HRow.out hbW
              have row2 := Kd.R_grown2 row1 rfl hG (rows_ne r1f row1 (by decide))
              obtain ⟨A8, c8, e8, -, hC8⟩ := Kd.R_reads row2
              have hdl : (dirS l).length = L := by rw [dirS_len, HLL.out]
              rw [hdl] at e8 hC8
              simp only [Value.slice.injEq] at e8
              obtain ⟨rfl, -, rfl⟩ := e8
              obtain ⟨a8, e8, d8, d9⟩ := at_T79 hC8 (q : Int) (by omega) (by omega)
              obtain rfl := Option.some.inj e8
              rw [dirS_at, Int.toNat_natCast, ← HF.out] at d9
              simp only at d9
              have hgl : g < wr.heap.size := by
                have h5 := HRef.out.files
                rw [hfv] at h5
                exact HRef.out.lt g (h5.1 g rfl)
              have hgn : wr.heap.size ≠ g := by omega
              have zz := (cell_far (W1.setCell ⟨g, f * 2, none⟩ (.string (fs.extract 0 nn))) g (f * 2 + 1) (.int .i64 (nn : Int)) hgn 0).trans ((cell_far W1 g (f * 2) (.string (fs.extract 0 nn)) hgn 0).trans z0)
              have HOW : Aside0 (Only w ((W1.setCell ⟨g, f * 2, none⟩ (.string (fs.extract 0 nn))).setCell ⟨g, f * 2 + 1, none⟩ (.int .i64 (nn : Int))) own) := ⟨(HOn.out.trans (Only.of_below hbW own) (fun _ _ h => h)).trans (Only.of_grown hG (fun k hk => by have h5 := HRef.out.files; rw [hfv] at h5; cases hk; exact h5.1 g rfl)) (fun _ _ h => h)⟩
              have HNX := Aside0.mk hN; have HR2 := Aside0.mk row2; have HHW := Aside0.mk hbW
              have hnf : (nn : Int) ≤ (fs.size : Int) := by omega
              have hn0 : 0 ≤ (nn : Int) := by omega
              have hdk : decide (0 < keep.length) = false := decide_eq_false (by omega)
              have e1 : IntKind.i64.wrap ((fs.size : Int) - (su : Int)) = (r0 : Int) := by rw [IntWalk.i64_in _ (by omega)]; omega
              have e1' : wrap64 ((fs.size : Int) - (su : Int)) = (r0 : Int) := by unfold wrap64; omega
              have e2 : min (0 : Int) (r0 : Int) = 0 := by omega
              have e3 : IntKind.i64.wrap (su : Int) = (nn : Int) := by rw [IntWalk.i64_in _ (by omega)]; omega
              have e3' : wrap64 (su : Int) = (nn : Int) := by unfold wrap64; omega
              clear hnn hnn0 hN hG row1 row2 hC8 hdl hgl hgn hkl hr0 hsu c0 d8 k0 d0 d1 x0 x1 y0 y1 hcW R1 r1f hkr hfv
              go_wp2_with fail
              go_region_held3 (fun w' => w'.cell? ⟨rb, 0, none⟩ = some (.slice (some ⟨g, 0, none⟩) M.files.length c0v) ∧ w'.cell? ⟨(a1.add (q * 2)).block, (a1.add (q * 2)).off + 1, none⟩ = some (.int .i64 f) ∧ w'.cell? ⟨wr.heap.size, 0, none⟩ = some (.string fs))
                ((repeat' apply And.intro) <;> (first | assumption | go_keep))
                (first | fail)
              clear v0 v1 u0 u1 z0 z1 w0 w1 c0' d9 zz e1 e1' e2 e3 e3'
              go_wp2_with fail
              go_roundw
              case rel => exact ⟨q + 1, by have := HLT.out; omega, by go_num, ⟨HNX.out.below (below_drew (Below.refl _ _)), HOW.out.trans (Only.of_below (below_drew (Below.refl _ _)) own) (fun _ _ h => h), Kd.R_below HR2.out (below_drew (Below.refl _ _))⟩⟩
              case measure => simp [intOf]; have := HLT.out; omega
            · have hkp : 0 < keep.length := by omega
              obtain ⟨m2, hm2⟩ : ∃ m2, m2 = q % keep.length := ⟨_, rfl⟩
              have hm2l : m2 < keep.length := by rw [hm2]; exact Nat.mod_lt _ hkp
              obtain ⟨ad2, hA2, hck⟩ := Kd.at_int hkr (m2 : Int) (by omega) (by omega)
              rw [Int.toNat_natCast] at hck
              obtain ⟨x, hx⟩ : ∃ x, x = rd keep (m2 : Int) := ⟨_, rfl⟩
              rw [← hx] at hck
              obtain ⟨m, hm⟩ : ∃ m : Nat, m = x.toNat := ⟨_, rfl⟩
              have hm0 : moreF keep q = m := by
                unfold moreF
                rw [if_neg hkl, ← hm2, hm, hx]
                simp [rd]
              obtain ⟨r1, hr1⟩ : ∃ r1 : Nat, r1 = min m r0 := ⟨_, rfl⟩
              obtain ⟨nn, hnn0⟩ : ∃ nn : Nat, nn = su + r1 := ⟨_, rfl⟩
              have hnn : nn = su + min (moreF keep q) (fs.size - su) := by rw [hm0, hnn0, hr1, hr0]
              obtain ⟨hN, hG⟩ := HNXT.out nn hnn
              have c0 := cells_of hN.blk 0 rfl
              have c0' : ((W1.setCell ⟨g, f * 2, none⟩ (.string (fs.extract 0 nn))).setCell ⟨g, f * 2 + 1, none⟩ (.int .i64 (nn : Int))).cell? ⟨rb, 0, none⟩ = some (.slice (some ⟨g, 0, none⟩) M.files.length c0v) := by rw [← hfv]; exact c0
              have row1 := Kd.R_below HRow.out hbW
              have row2 := Kd.R_grown2 row1 rfl hG (rows_ne r1f row1 (by decide))
              obtain ⟨A8, c8, e8, -, hC8⟩ := Kd.R_reads row2
              have hdl : (dirS l).length = L := by rw [dirS_len, HLL.out]
              rw [hdl] at e8 hC8
              simp only [Value.slice.injEq] at e8
              obtain ⟨rfl, -, rfl⟩ := e8
              obtain ⟨a8, e8, d8, d9⟩ := at_T79 hC8 (q : Int) (by omega) (by omega)
              obtain rfl := Option.some.inj e8
              rw [dirS_at, Int.toNat_natCast, ← HF.out] at d9
              simp only at d9
              have hgl : g < wr.heap.size := by
                have h5 := HRef.out.files
                rw [hfv] at h5
                exact HRef.out.lt g (h5.1 g rfl)
              have hgn : wr.heap.size ≠ g := by omega
              have zz := (cell_far (W1.setCell ⟨g, f * 2, none⟩ (.string (fs.extract 0 nn))) g (f * 2 + 1) (.int .i64 (nn : Int)) hgn 0).trans ((cell_far W1 g (f * 2) (.string (fs.extract 0 nn)) hgn 0).trans z0)
              have HOW : Aside0 (Only w ((W1.setCell ⟨g, f * 2, none⟩ (.string (fs.extract 0 nn))).setCell ⟨g, f * 2 + 1, none⟩ (.int .i64 (nn : Int))) own) := ⟨(HOn.out.trans (Only.of_below hbW own) (fun _ _ h => h)).trans (Only.of_grown hG (fun k hk => by have h5 := HRef.out.files; rw [hfv] at h5; cases hk; exact h5.1 g rfl)) (fun _ _ h => h)⟩
              have HNX := Aside0.mk hN; have HR2 := Aside0.mk row2; have HHW := Aside0.mk hbW
              have hnf : (nn : Int) ≤ (fs.size : Int) := by omega
              have hn0 : 0 ≤ (nn : Int) := by omega
              have hdk : decide (0 < keep.length) = true := decide_eq_true hkp
              have hmod : (q : Int) % (keep.length : Int) = (m2 : Int) := by rw [hm2]; rfl
              have hmax : max x 0 = (m : Int) := by omega
              have e1 : IntKind.i64.wrap ((fs.size : Int) - (su : Int)) = (r0 : Int) := by rw [IntWalk.i64_in _ (by omega)]; omega
              have e1' : wrap64 ((fs.size : Int) - (su : Int)) = (r0 : Int) := by unfold wrap64; omega
              have e2 : min (m : Int) (r0 : Int) = (r1 : Int) := by omega
              have e3 : IntKind.i64.wrap ((su : Int) + (r1 : Int)) = (nn : Int) := by rw [IntWalk.i64_in _ (by omega)]; omega
              have e3' : wrap64 ((su : Int) + (r1 : Int)) = (nn : Int) := by unfold wrap64; omega
              have hm2z : (m2 : Int) < (keep.length : Int) := by omega
              have hm2p : 0 ≤ (m2 : Int) := by omega
              subst hA2
              clear hm0 hr1 hm hx hm2 hnn hnn0 hN hG row1 row2 hC8 hdl hgl hgn hkl hr0 hsu c0 d8 k0 d0 d1 x0 x1 y0 y1 hcW R1 r1f hkr hfv
              go_wp2_with fail
              go_region_held3 (fun w' => w'.cell? ⟨rb, 0, none⟩ = some (.slice (some ⟨g, 0, none⟩) M.files.length c0v) ∧ w'.cell? ⟨(a1.add (q * 2)).block, (a1.add (q * 2)).off + 1, none⟩ = some (.int .i64 f) ∧ w'.cell? ⟨wr.heap.size, 0, none⟩ = some (.string fs))
                ((repeat' apply And.intro) <;> (first | assumption | go_keep))
                (first | fail)
              clear hck hmod hmax v0 v1 u0 u1 z0 z1 w0 w1 c0' d9 zz e1 e1' e2 e3 e3'
              go_wp2_with fail
              go_roundw
              case rel => exact ⟨q + 1, by have := HLT.out; omega, by go_num, ⟨HNX.out.below (below_drew (Below.refl _ _)), HOW.out.trans (Only.of_below (below_drew (Below.refl _ _)) own) (fun _ _ h => h), Kd.R_below HR2.out (below_drew (Below.refl _ _))⟩⟩
              case measure => simp [intOf]; have := HLT.out; omega
          · obtain rfl : q = L := by omega
            obtain ⟨hRef, hOn, hRow⟩ := HS.out
            have hF : cutAll keep 0 (l.take q) M.files = cutAll keep 0 l M.files := by rw [HLL.out, List.take_length]
            rw [hF] at hRef
            have s1 := heap_set hRef.blk 1 (.slice A6 q c6)
            have s2 := heap_set s1 2 (.slice A6 q c6)
            have s3 := heap_set s2 3 (.slice none 0 0)
            have s4 := heap_set s3 5 (.int .i64 (-1))
            have s5 := heap_set s4 6 (.int .i64 (-1))
            have p1 := cells_of hRef.blk 1 rfl
            have p2 := cells_of s1 2 rfl
            have p3 := cells_of s2 3 rfl
            have p4 := cells_of s3 5 rfl
            have p5 := cells_of s4 6 rfl
            have f1 := free_of hRef.blk 1
            have f2 := free_of s1 2
            have f3 := free_of s2 3
            have f4 := free_of s3 5
            have f5 := free_of s4 6
            obtain ⟨W5, hW5⟩ : ∃ W, W = ((((wr.setCell ⟨rb, 1, none⟩ (.slice A6 q c6)).setCell ⟨rb, 2, none⟩ (.slice A6 q c6)).setCell ⟨rb, 3, none⟩ (.slice none 0 0)).setCell ⟨rb, 5, none⟩ (.int .i64 (-1))).setCell ⟨rb, 6, none⟩ (.int .i64 (-1)) := ⟨_, rfl⟩
            rw [← hW5] at s5
            have hsz5 : W5.heap.size = wr.heap.size := by rw [hW5]; simp [World.setCell]
            have hk5 : ∀ k, k ≠ rb → W5.heap[k]? = wr.heap[k]? := fun k hk => by rw [hW5, set_other _ rb 6 _ hk, set_other _ rb 5 _ hk, set_other _ rb 3 _ hk, set_other _ rb 2 _ hk, set_other _ rb 1 _ hk]
            have gf := row_far (w' := W5) hRef.files rfl hRef.blk (by decide) (fun k _ hk => hk5 k hk)
            have gd := row_far (w' := W5) hRow rfl hRef.blk (by decide) (fun k _ hk => hk5 k hk)
            have hO5 : Only wr W5 own := by
              rw [hW5]
              exact ((((Only.setCell (w := wr) (S := own) (a := ⟨rb, 1, none⟩) hRef.orb _).trans (Only.setCell (S := own) (a := ⟨rb, 2, none⟩) hRef.orb _) (fun _ _ h => h)).trans (Only.setCell (S := own) (a := ⟨rb, 3, none⟩) hRef.orb _) (fun _ _ h => h)).trans (Only.setCell (S := own) (a := ⟨rb, 5, none⟩) hRef.orb _) (fun _ _ h => h)).trans (Only.setCell (S := own) (a := ⟨rb, 6, none⟩) hRef.orb _) (fun _ _ h => h)
            have HW : Aside0 (WentR w W5 own rb (crashF M n keep)) := ⟨by
              have e : crashF M n keep = { M with files := cutAll keep 0 l M.files, dir := l, sdir := l, chg := [], halt := never, deny := never } := by rw [HLQ.out]; rfl
              rw [e]
              refine ⟨fun k => (own k ∨ w.heap.size ≤ k) ∧ k < W5.heap.size, ⟨fv, .slice A6 q c6, .slice A6 q c6, .slice none 0 0, ⟨⟨.inl hRef.orb, (Array.getElem?_eq_some_iff.1 s5).1⟩, s5, ?_, ?_, ?_, Kd.R_nil _ _ _ _ _, fun k hk => hk.2⟩⟩, fun k hk => hk.1, hOn.trans hO5 (fun _ _ h => h)⟩
              · exact Kd.R_mono (Kd.R_bound gf) (fun k hk => ⟨.inl hk.1, hk.2.2.1⟩)
              · exact Kd.R_mono (Kd.R_bound gd) (fun k hk => ⟨hk.1, hk.2.2.1⟩)
              · exact Kd.R_mono (Kd.R_bound gd) (fun k hk => ⟨hk.1, hk.2.2.1⟩)⟩
            rw [hW5] at HW
            clear hRef hOn hRow hF s1 s2 s3 s4 s5 hW5 hsz5 hk5 gf gd hO5
            go_wp2
            go_end0
            exact ⟨rfl, HW.out⟩
    · have hd1 : decide ((k : Int) < n) = false := decide_eq_false h1
      have hT := take_exit (cs := M.chg) (k := k) (n := n) hk hkn (.inl (by omega))
      have H1 := HH.out.below HBW.out
      obtain ⟨l, hl⟩ : ∃ l, l = replay M.sdir (M.chg.take n.toNat) := ⟨_, rfl⟩
      obtain ⟨L, hL⟩ : ∃ L, L = l.length := ⟨_, rfl⟩
      have hlen6 : (dirS (replay M.sdir (M.chg.take k))).length = L := by rw [hT, ← hl, hL]; exact dirS_len l
      have HL79 : Aside0 (Kd.R k79 79 wr 0 (fun k => own k ∨ w.heap.size ≤ k) (.slice A6 L c6) (dirS l)) := ⟨by have h := HRV.out; rw [hlen6] at h; rw [hT, ← hl] at h; exact h⟩
      have HCD : Aside0 (Kd.C k79 wr A6 L (dirS l)) := ⟨by have h := HC6.out; rw [hlen6] at h; rw [hT, ← hl] at h; exact h⟩
      have HLQ := Aside0.mk hl
      have HLL := Aside0.mk hL
      have hLl : L < 100000 := by rw [hL, hl]; exact HBB.out.dl n.toNat
      rw [hlen6]
      clear HRV HC6
      have HS0 : Aside0 (RefR wr own rb fv dv (.slice A2 (dirS M.sdir).length c2) (.slice A3 M.chg.length c3) { M with files := cutAll keep 0 (l.take 0) M.files } ∧ Only w wr own ∧ Kd.R k79 79 wr 0 (fun k => own k ∨ w.heap.size ≤ k) (.slice A6 L c6) (dirS l)) := ⟨H1, Only.of_below HBW.out own, HL79.out⟩
      obtain ⟨wo, rfl⟩ : ∃ wo, wo = wr := ⟨_, rfl⟩
      clear H1 hT hl hL hlen6 
      go_wp2_with fail
      go_loopw [8] (fun i wr => ∃ q : Nat, q ≤ L ∧ i = .int .i64 q ∧ Aside0 (RefR wr own rb fv dv (.slice A2 (dirS M.sdir).length c2) (.slice A3 M.chg.length c3) { M with files := cutAll keep 0 (l.take q) M.files } ∧ Only w wr own ∧ Kd.R k79 79 wr 0 (fun k => own k ∨ w.heap.size ≤ k) (.slice A6 L c6) (dirS l))) (fun i _ => L - (intOf i).toNat)
      case atStart => exact ⟨0, Nat.zero_le _, rfl, HS0⟩
      case round =>
        clear HS0
        obtain ⟨q, hq, rfl, HS⟩ := hrel
        by_cases hlt : q < L
        · obtain ⟨hRef, hOn, hRow⟩ := HS.out
          have hqd : q < l.length := by rw [← HLL.out]; exact hlt
          obtain ⟨f, hf⟩ : ∃ f, f = (l.getD q ([], 0)).2 := ⟨_, rfl⟩
          have hfl : f < M.files.length := by
            rw [hf]
            have hmem : l.getD q ([], 0) ∈ l := by rw [List.getD_eq_getElem?_getD, List.getElem?_eq_getElem hqd]; exact List.getElem_mem hqd
            rw [HLQ.out] at hmem ⊢
            exact HBB.out.dv n.toNat _ hmem
          have hFl : (cutAll keep 0 (l.take q) M.files).length = M.files.length := cutAll_len keep _ 0 _
          have hSO : SureOk (cutAll keep 0 (l.take q) M.files) := SureOk.cutAll HBB.out.su (fun p hp => by have h5 := List.mem_of_mem_take hp; rw [HLQ.out] at h5; exact HBB.out.dv n.toNat p h5)
          have hsu := hSO f
          have hMV : ∀ f : Nat, rd77 ((cutAll keep 0 (l.take q) M.files).map f77) (f : Int) = ⟨bsS ((cutAll keep 0 (l.take q) M.files).getD f ([], 0)).1, (((cutAll keep 0 (l.take q) M.files).getD f ([], 0)).2 : Int)⟩ := fun f => rd77_at { M with files := cutAll keep 0 (l.take q) M.files } f
          obtain ⟨A0, c0v, hfv, hc0, -⟩ := Kd.R_reads hRef.files
          have hlen : (({ M with files := cutAll keep 0 (l.take q) M.files } : DM).files.map f77).length = M.files.length := by rw [List.length_map]; exact hFl
          rw [hlen] at hfv hc0
          obtain ⟨g, hgA⟩ : ∃ g, A0 = some ⟨g, 0, none⟩ := by
            obtain ⟨ad, c', e⟩ := Kd.R_slice1 hRef.files (by rw [hlen]; omega)
            rw [hfv] at e
            injection e with e1 _ _
            have h5 := hRef.files
            rw [hfv, e1] at h5
            obtain ⟨g, hh⟩ := Kd.R_head h5
            exact ⟨g, by rw [e1, hh]⟩
          subst hgA
          have hfi := hRef.files
          rw [hfv] at hfi
          obtain ⟨x0, x1, y0, y1⟩ := f77_elem hfi f hfl
          rw [show ({ M with files := cutAll keep 0 (l.take q) M.files } : DM).files = cutAll keep 0 (l.take q) M.files from rfl, hMV] at x0 x1
          simp only at x0 x1
          have k0 := cells_of hRef.blk 0 rfl
          rw [show #[fv, dv, Value.slice A2 (dirS M.sdir).length c2, Value.slice A3 M.chg.length c3, Value.int .i64 M.space, .int .i64 (negR M.halt), .int .i64 (negR M.deny), .int .i64 M.calls][0] = fv from rfl, hfv] at k0
          obtain ⟨A7, c7, e7, hc7, hC7⟩ := Kd.R_reads hRow
          have hdl : (dirS l).length = L := by rw [dirS_len, HLL.out]
          rw [hdl] at e7 hC7
          simp only [Value.slice.injEq] at e7
          obtain ⟨rfl, -, rfl⟩ := e7
          obtain ⟨a1, e1, d0, d1⟩ := at_T79 hC7 (q : Int) (by omega) (by omega)
          rw [dirS_at, Int.toNat_natCast] at d0 d1
          simp only [← hf] at d0 d1
          subst e1
          have hszf := bsS_size ((cutAll keep 0 (l.take q) M.files).getD f ([], 0)).1
          rw [← hszf] at hsu
          have b0 : 0 ≤ (q : Int) := by omega
          have b1 : (q : Int) < (L : Int) := by omega
          have b2 : 0 ≤ (f : Int) := by omega
          have b3 : (f : Int) < (M.files.length : Int) := by omega
          have HRef := Aside0.mk hRef; have HOn := Aside0.mk hOn; have HRow := Aside0.mk hRow; have HF := Aside0.mk hf; have HLT := Aside0.mk hlt; have HMV := Aside0.mk hMV; have HFL := Aside0.mk hfl
          have HFS := Aside0.mk hszf
          clear hRef hOn hRow hf hlt hMV hSO hFl hfl hlen hC7 hc7 hc0 hdl hqd hszf
          obtain ⟨fs, hfs⟩ : ∃ s, s = bsS ((cutAll keep 0 (l.take q) M.files).getD f ([], 0)).1 := ⟨_, rfl⟩
          obtain ⟨su, hsu0⟩ : ∃ s, s = ((cutAll keep 0 (l.take q) M.files).getD f ([], 0)).2 := ⟨_, rfl⟩
          rw [← hfs] at x0 hsu
          rw [← hsu0] at x1 hsu
          have HFSQ := Aside0.mk hfs; have HSUQ := Aside0.mk hsu0
          clear hfs hsu0
          go_wp2_with fail
          go_region_held3 (fun w' => w'.cell? ⟨rb, 0, none⟩ = some (.slice (some ⟨g, 0, none⟩) M.files.length c0v) ∧ w'.cell? ⟨(a1.add (q * 2)).block, (a1.add (q * 2)).off + 1, none⟩ = some (.int .i64 f) ∧ w'.cell? ⟨g, f * 2, none⟩ = some (.string fs) ∧ w'.cell? ⟨g, f * 2 + 1, none⟩ = some (.int .i64 su))
            ((repeat' apply And.intro) <;> (first | assumption | go_keep))
            (first | fail)
          obtain ⟨W1, hW1⟩ : ∃ W, W = (wr.alloc (Obj.cells #[.string fs, .int .i64 su] 77 (0, 0))).drew := ⟨_, rfl⟩
          have hbW : Below wr.heap.size wr W1 := by rw [hW1]; exact below_drew ((Below.refl _ _).alloc (Nat.le_refl _) _)
          have hcW : W1.heap[wr.heap.size]? = some (Obj.cells #[.string fs, .int .i64 su] 77 (0, 0)) := by rw [hW1]; exact heap_alloc wr _
          rw [← hW1]
          clear hW1
          have z0 := cells_of hcW 0 rfl
          have z1 := cells_of hcW 1 rfl
          have R1 := HRef.out.below hbW
          have r1f := R1.files
          rw [hfv] at r1f
          have w0 := pw_cell_below hbW k0
          have w1 := pw_cell_below hbW d1
          obtain ⟨v0, v1, u0, u1⟩ := f77_elem r1f f HFL.out
          have hkr := HKK.out W1 (HOn.out.trans (Only.of_below hbW own) (fun _ _ h => h))
          have HNXT : Aside0 (∀ nn : Nat, nn = su + min (moreF keep q) (fs.size - su) → RefR ((W1.setCell ⟨g, f * 2, none⟩ (.string (fs.extract 0 nn))).setCell ⟨g, f * 2 + 1, none⟩ (.int .i64 (nn : Int))) own rb fv dv (.slice A2 (dirS M.sdir).length c2) (.slice A3 M.chg.length c3) { M with files := cutAll keep 0 (l.take (q + 1)) M.files } ∧ W1.grownBy ((W1.setCell ⟨g, f * 2, none⟩ (.string (fs.extract 0 nn))).setCell ⟨g, f * 2 + 1, none⟩ (.int .i64 (nn : Int))) (some g)) := ⟨fun nn hnn => by
            have hb := f77_both r1f f HFL.out (fs.extract 0 nn) (nn : Int)
            have hnx := cut_next (by rw [← HLL.out]; exact HLT.out) HF.out (by rw [cutAll_len]; exact HFL.out) rfl HFSQ.out HSUQ.out hnn (F := M.files) (keep := keep)
            have h5 := R1
            rw [hfv] at h5 ⊢
            exact ⟨(h5.fileSet hb.2 _ (by rw [hnx]; exact hb.1)).1, hb.2⟩⟩
          have hfsz : fs.size ≤ 1099511627776 := by rw [HFSQ.out, bsS_size]; exact cutAll_fits HBB.out.su (fun p hp => by have h5 := List.mem_of_mem_take hp; rw [HLQ.out] at h5; exact HBB.out.dv n.toNat p h5) HBB.out.fi f
          obtain ⟨r0, hr0⟩ : ∃ r0 : Nat, r0 = fs.size - su := ⟨_, rfl⟩

          by_cases hkl : keep.length = 0
          · obtain ⟨nn, hnn0⟩ : ∃ nn : Nat, nn = su := ⟨_, rfl⟩
            have hnn : nn = su + min (moreF keep q) (fs.size - su) := by unfold moreF; rw [if_pos hkl]; omega
            obtain ⟨hN, hG⟩ := HNXT.out nn hnn
            have c0 := cells_of hN.blk 0 rfl
            have c0' : ((W1.setCell ⟨g, f * 2, none⟩ (.string (fs.extract 0 nn))).setCell ⟨g, f * 2 + 1, none⟩ (.int .i64 (nn : Int))).cell? ⟨rb, 0, none⟩ = some (.slice (some ⟨g, 0, none⟩) M.files.length c0v) := by rw [← hfv]; exact c0
            have row1 := Kd.R_below HRow.out hbW
            have row2 := Kd.R_grown2 row1 rfl hG (rows_ne r1f row1 (by decide))
            obtain ⟨A8, c8, e8, -, hC8⟩ := Kd.R_reads row2
            have hdl : (dirS l).length = L := by rw [dirS_len, HLL.out]
            rw [hdl] at e8 hC8
            simp only [Value.slice.injEq] at e8
            obtain ⟨rfl, -, rfl⟩ := e8
            obtain ⟨a8, e8, d8, d9⟩ := at_T79 hC8 (q : Int) (by omega) (by omega)
            obtain rfl := Option.some.inj e8
            rw [dirS_at, Int.toNat_natCast, ← HF.out] at d9
            simp only at d9
            have hgl : g < wr.heap.size := by
              have h5 := HRef.out.files
              rw [hfv] at h5
              exact HRef.out.lt g (h5.1 g rfl)
            have hgn : wr.heap.size ≠ g := by omega
            have zz := (cell_far (W1.setCell ⟨g, f * 2, none⟩ (.string (fs.extract 0 nn))) g (f * 2 + 1) (.int .i64 (nn : Int)) hgn 0).trans ((cell_far W1 g (f * 2) (.string (fs.extract 0 nn)) hgn 0).trans z0)
            have HOW : Aside0 (Only w ((W1.setCell ⟨g, f * 2, none⟩ (.string (fs.extract 0 nn))).setCell ⟨g, f * 2 + 1, none⟩ (.int .i64 (nn : Int))) own) := ⟨(HOn.out.trans (Only.of_below hbW own) (fun _ _ h => h)).trans (Only.of_grown hG (fun k hk => by have h5 := HRef.out.files; rw [hfv] at h5; cases hk; exact h5.1 g rfl)) (fun _ _ h => h)⟩
            have HNX := Aside0.mk hN; have HR2 := Aside0.mk row2; have HHW := Aside0.mk hbW
            have hnf : (nn : Int) ≤ (fs.size : Int) := by omega
            have hn0 : 0 ≤ (nn : Int) := by omega
            have hdk : decide (0 < keep.length) = false := decide_eq_false (by omega)
            have e1 : IntKind.i64.wrap ((fs.size : Int) - (su : Int)) = (r0 : Int) := by rw [IntWalk.i64_in _ (by omega)]; omega
            have e1' : wrap64 ((fs.size : Int) - (su : Int)) = (r0 : Int) := by unfold wrap64; omega
            have e2 : min (0 : Int) (r0 : Int) = 0 := by omega
            have e3 : IntKind.i64.wrap (su : Int) = (nn : Int) := by rw [IntWalk.i64_in _ (by omega)]; omega
            have e3' : wrap64 (su : Int) = (nn : Int) := by unfold wrap64; omega
            clear hnn hnn0 hN hG row1 row2 hC8 hdl hgl hgn hkl hr0 hsu c0 d8 k0 d0 d1 x0 x1 y0 y1 hcW R1 r1f hkr hfv
            go_wp2_with fail
            go_region_held3 (fun w' => w'.cell? ⟨rb, 0, none⟩ = some (.slice (some ⟨g, 0, none⟩) M.files.length c0v) ∧ w'.cell? ⟨(a1.add (q * 2)).block, (a1.add (q * 2)).off + 1, none⟩ = some (.int .i64 f) ∧ w'.cell? ⟨wr.heap.size, 0, none⟩ = some (.string fs))
              ((repeat' apply And.intro) <;> (first | assumption | go_keep))
              (first | fail)
            clear v0 v1 u0 u1 z0 z1 w0 w1 c0' d9 zz e1 e1' e2 e3 e3'
            go_wp2_with fail
            go_roundw
            case rel => exact ⟨q + 1, by have := HLT.out; omega, by go_num, ⟨HNX.out.below (below_drew (Below.refl _ _)), HOW.out.trans (Only.of_below (below_drew (Below.refl _ _)) own) (fun _ _ h => h), Kd.R_below HR2.out (below_drew (Below.refl _ _))⟩⟩
            case measure => simp [intOf]; have := HLT.out; omega
          · have hkp : 0 < keep.length := by omega
            obtain ⟨m2, hm2⟩ : ∃ m2, m2 = q % keep.length := ⟨_, rfl⟩
            have hm2l : m2 < keep.length := by rw [hm2]; exact Nat.mod_lt _ hkp
            obtain ⟨ad2, hA2, hck⟩ := Kd.at_int hkr (m2 : Int) (by omega) (by omega)
            rw [Int.toNat_natCast] at hck
            obtain ⟨x, hx⟩ : ∃ x, x = rd keep (m2 : Int) := ⟨_, rfl⟩
            rw [← hx] at hck
            obtain ⟨m, hm⟩ : ∃ m : Nat, m = x.toNat := ⟨_, rfl⟩
            have hm0 : moreF keep q = m := by
              unfold moreF
              rw [if_neg hkl, ← hm2, hm, hx]
              simp [rd]
            obtain ⟨r1, hr1⟩ : ∃ r1 : Nat, r1 = min m r0 := ⟨_, rfl⟩
            obtain ⟨nn, hnn0⟩ : ∃ nn : Nat, nn = su + r1 := ⟨_, rfl⟩
            have hnn : nn = su + min (moreF keep q) (fs.size - su) := by rw [hm0, hnn0, hr1, hr0]
            obtain ⟨hN, hG⟩ := HNXT.out nn hnn
            have c0 := cells_of hN.blk 0 rfl
            have c0' : ((W1.setCell ⟨g, f * 2, none⟩ (.string (fs.extract 0 nn))).setCell ⟨g, f * 2 + 1, none⟩ (.int .i64 (nn : Int))).cell? ⟨rb, 0, none⟩ = some (.slice (some ⟨g, 0, none⟩) M.files.length c0v) := by rw [← hfv]; exact c0
            have row1 := Kd.R_below HRow.out hbW
            have row2 := Kd.R_grown2 row1 rfl hG (rows_ne r1f row1 (by decide))
            obtain ⟨A8, c8, e8, -, hC8⟩ := Kd.R_reads row2
            have hdl : (dirS l).length = L := by rw [dirS_len, HLL.out]
            rw [hdl] at e8 hC8
            simp only [Value.slice.injEq] at e8
            obtain ⟨rfl, -, rfl⟩ := e8
            obtain ⟨a8, e8, d8, d9⟩ := at_T79 hC8 (q : Int) (by omega) (by omega)
            obtain rfl := Option.some.inj e8
            rw [dirS_at, Int.toNat_natCast, ← HF.out] at d9
            simp only at d9
            have hgl : g < wr.heap.size := by
              have h5 := HRef.out.files
              rw [hfv] at h5
              exact HRef.out.lt g (h5.1 g rfl)
            have hgn : wr.heap.size ≠ g := by omega
            have zz := (cell_far (W1.setCell ⟨g, f * 2, none⟩ (.string (fs.extract 0 nn))) g (f * 2 + 1) (.int .i64 (nn : Int)) hgn 0).trans ((cell_far W1 g (f * 2) (.string (fs.extract 0 nn)) hgn 0).trans z0)
            have HOW : Aside0 (Only w ((W1.setCell ⟨g, f * 2, none⟩ (.string (fs.extract 0 nn))).setCell ⟨g, f * 2 + 1, none⟩ (.int .i64 (nn : Int))) own) := ⟨(HOn.out.trans (Only.of_below hbW own) (fun _ _ h => h)).trans (Only.of_grown hG (fun k hk => by have h5 := HRef.out.files; rw [hfv] at h5; cases hk; exact h5.1 g rfl)) (fun _ _ h => h)⟩
            have HNX := Aside0.mk hN; have HR2 := Aside0.mk row2; have HHW := Aside0.mk hbW
            have hnf : (nn : Int) ≤ (fs.size : Int) := by omega
            have hn0 : 0 ≤ (nn : Int) := by omega
            have hdk : decide (0 < keep.length) = true := decide_eq_true hkp
            have hmod : (q : Int) % (keep.length : Int) = (m2 : Int) := by rw [hm2]; rfl
            have hmax : max x 0 = (m : Int) := by omega
            have e1 : IntKind.i64.wrap ((fs.size : Int) - (su : Int)) = (r0 : Int) := by rw [IntWalk.i64_in _ (by omega)]; omega
            have e1' : wrap64 ((fs.size : Int) - (su : Int)) = (r0 : Int) := by unfold wrap64; omega
            have e2 : min (m : Int) (r0 : Int) = (r1 : Int) := by omega
            have e3 : IntKind.i64.wrap ((su : Int) + (r1 : Int)) = (nn : Int) := by rw [IntWalk.i64_in _ (by omega)]; omega
            have e3' : wrap64 ((su : Int) + (r1 : Int)) = (nn : Int) := by unfold wrap64; omega
            have hm2z : (m2 : Int) < (keep.length : Int) := by omega
            have hm2p : 0 ≤ (m2 : Int) := by omega
            subst hA2
            clear hm0 hr1 hm hx hm2 hnn hnn0 hN hG row1 row2 hC8 hdl hgl hgn hkl hr0 hsu c0 d8 k0 d0 d1 x0 x1 y0 y1 hcW R1 r1f hkr hfv
            go_wp2_with fail
            go_region_held3 (fun w' => w'.cell? ⟨rb, 0, none⟩ = some (.slice (some ⟨g, 0, none⟩) M.files.length c0v) ∧ w'.cell? ⟨(a1.add (q * 2)).block, (a1.add (q * 2)).off + 1, none⟩ = some (.int .i64 f) ∧ w'.cell? ⟨wr.heap.size, 0, none⟩ = some (.string fs))
              ((repeat' apply And.intro) <;> (first | assumption | go_keep))
              (first | fail)
            clear hck hmod hmax v0 v1 u0 u1 z0 z1 w0 w1 c0' d9 zz e1 e1' e2 e3 e3'
            go_wp2_with fail
            go_roundw
            case rel => exact ⟨q + 1, by have := HLT.out; omega, by go_num, ⟨HNX.out.below (below_drew (Below.refl _ _)), HOW.out.trans (Only.of_below (below_drew (Below.refl _ _)) own) (fun _ _ h => h), Kd.R_below HR2.out (below_drew (Below.refl _ _))⟩⟩
            case measure => simp [intOf]; have := HLT.out; omega
        · obtain rfl : q = L := by omega
          obtain ⟨hRef, hOn, hRow⟩ := HS.out
          have hF : cutAll keep 0 (l.take q) M.files = cutAll keep 0 l M.files := by rw [HLL.out, List.take_length]
          rw [hF] at hRef
          have s1 := heap_set hRef.blk 1 (.slice A6 q c6)
          have s2 := heap_set s1 2 (.slice A6 q c6)
          have s3 := heap_set s2 3 (.slice none 0 0)
          have s4 := heap_set s3 5 (.int .i64 (-1))
          have s5 := heap_set s4 6 (.int .i64 (-1))
          have p1 := cells_of hRef.blk 1 rfl
          have p2 := cells_of s1 2 rfl
          have p3 := cells_of s2 3 rfl
          have p4 := cells_of s3 5 rfl
          have p5 := cells_of s4 6 rfl
          have f1 := free_of hRef.blk 1
          have f2 := free_of s1 2
          have f3 := free_of s2 3
          have f4 := free_of s3 5
          have f5 := free_of s4 6
          obtain ⟨W5, hW5⟩ : ∃ W, W = ((((wr.setCell ⟨rb, 1, none⟩ (.slice A6 q c6)).setCell ⟨rb, 2, none⟩ (.slice A6 q c6)).setCell ⟨rb, 3, none⟩ (.slice none 0 0)).setCell ⟨rb, 5, none⟩ (.int .i64 (-1))).setCell ⟨rb, 6, none⟩ (.int .i64 (-1)) := ⟨_, rfl⟩
          rw [← hW5] at s5
          have hsz5 : W5.heap.size = wr.heap.size := by rw [hW5]; simp [World.setCell]
          have hk5 : ∀ k, k ≠ rb → W5.heap[k]? = wr.heap[k]? := fun k hk => by rw [hW5, set_other _ rb 6 _ hk, set_other _ rb 5 _ hk, set_other _ rb 3 _ hk, set_other _ rb 2 _ hk, set_other _ rb 1 _ hk]
          have gf := row_far (w' := W5) hRef.files rfl hRef.blk (by decide) (fun k _ hk => hk5 k hk)
          have gd := row_far (w' := W5) hRow rfl hRef.blk (by decide) (fun k _ hk => hk5 k hk)
          have hO5 : Only wr W5 own := by
            rw [hW5]
            exact ((((Only.setCell (w := wr) (S := own) (a := ⟨rb, 1, none⟩) hRef.orb _).trans (Only.setCell (S := own) (a := ⟨rb, 2, none⟩) hRef.orb _) (fun _ _ h => h)).trans (Only.setCell (S := own) (a := ⟨rb, 3, none⟩) hRef.orb _) (fun _ _ h => h)).trans (Only.setCell (S := own) (a := ⟨rb, 5, none⟩) hRef.orb _) (fun _ _ h => h)).trans (Only.setCell (S := own) (a := ⟨rb, 6, none⟩) hRef.orb _) (fun _ _ h => h)
          have HW : Aside0 (WentR w W5 own rb (crashF M n keep)) := ⟨by
            have e : crashF M n keep = { M with files := cutAll keep 0 l M.files, dir := l, sdir := l, chg := [], halt := never, deny := never } := by rw [HLQ.out]; rfl
            rw [e]
            refine ⟨fun k => (own k ∨ w.heap.size ≤ k) ∧ k < W5.heap.size, ⟨fv, .slice A6 q c6, .slice A6 q c6, .slice none 0 0, ⟨⟨.inl hRef.orb, (Array.getElem?_eq_some_iff.1 s5).1⟩, s5, ?_, ?_, ?_, Kd.R_nil _ _ _ _ _, fun k hk => hk.2⟩⟩, fun k hk => hk.1, hOn.trans hO5 (fun _ _ h => h)⟩
            · exact Kd.R_mono (Kd.R_bound gf) (fun k hk => ⟨.inl hk.1, hk.2.2.1⟩)
            · exact Kd.R_mono (Kd.R_bound gd) (fun k hk => ⟨hk.1, hk.2.2.1⟩)
            · exact Kd.R_mono (Kd.R_bound gd) (fun k hk => ⟨hk.1, hk.2.2.1⟩)⟩
          rw [hW5] at HW
          clear hRef hOn hRow hF s1 s2 s3 s4 s5 hW5 hsz5 hk5 gf gd hO5
          go_wp2
          go_end0
          exact ⟨rfl, HW.out⟩
end
end Go.Proofs.Ytephblclhojffaa.A
namespace Go.Proofs.Ytephblclhojffaa.A
open Go.RowKit Go.Proofs.YtephblclhojffaaW.PrintWords Go.Proofs.YtephblclhojffaaW.PrintLast Go.Proofs.YtephblclhojffaaW.PrintMore
set_option linter.unusedVariables false
set_option linter.unusedSimpArgs false

section
variable {w w' w2 w3 : World} {own own' own1 : Nat → Prop} {rb : Nat} {fv dv sv cv : Value} {M M' : DM}
/-- What the reference's steps count on. -/
structure AllR (M : DM) : Prop where
  cnt : Cnt M
  bd : BdR M
  cr : CrR M
  hv : ∀ p ∈ M.dir, p.2 < M.files.length
  fi : Fits M 1099511627776
  fl : M.files.length < 100000
  sp : M.space ≤ 9223372036854775807
  sp0 : 0 ≤ M.space
set_option maxHeartbeats 8000000 in
theorem doesRef.calls (h : RefR w own rb fv dv sv cv M) (hB : AllR M) (o : S24) (Ak : Option Addr) (ck : Nat) (HK : ∀ W, Only w W own → Kd.C (Kd.int .i64) W Ak o.f4.length o.f4) (hck : o.f4.length ≤ ck) (hs1 : o.f1.size ≤ 4611686018427387903) (hs2 : o.f2.size ≤ 1099511627776) (hn3 : o.f3 ≤ 9223372036854775807) :
    Calls Try.prog 20 #[.pointer (some ⟨rb, 0, none⟩), .agg #[.int .i64 o.f0, .string o.f1, .string o.f2, .int .i64 o.f3, .slice Ak o.f4.length ck]] w fun e w' => e = .returned (.int .i64 (stepF M o).2) ∧ WentR w w' own rb (stepF M o).1 := by
  have hbel : Below w.heap.size w (w.alloc (.cells #[.int .i64 o.f0, .string o.f1, .string o.f2, .int .i64 o.f3, .slice Ak o.f4.length ck] 24)) := (Below.refl w.heap.size w).alloc (Nat.le_refl _) _
  have h0 := h.below hbel
  have hbox := heap_alloc w (.cells #[.int .i64 o.f0, .string o.f1, .string o.f2, .int .i64 o.f3, .slice Ak o.f4.length ck] 24)
  have hsz0 : (w.alloc (.cells #[.int .i64 o.f0, .string o.f1, .string o.f2, .int .i64 o.f3, .slice Ak o.f4.length ck] 24)).heap.size = w.heap.size + 1 := by simp
  have hkind := kind.calls (w := w.alloc (.cells #[.int .i64 o.f0, .string o.f1, .string o.f2, .int .i64 o.f3, .slice Ak o.f4.length ck] 24)) o Ak ck (HK _ (Only.of_below hbel own)) hck
  have hs2m : o.f2.size ≤ 9223372036854775806 := by omega
  have b0 := cells_of hbox 0 rfl
  have b1 := cells_of hbox 1 rfl
  have b2 := cells_of hbox 2 rfl
  have b3 := cells_of hbox 3 rfl
  have b4 := cells_of hbox 4 rfl
  have HORB := Aside0.mk h.orb; have HD := Aside0.mk h0; have HKK := Aside0.mk HK; have HBL := Aside0.mk hbel; have HBX := Aside0.mk hbox; have HSZ := Aside0.mk hsz0
  have HS1 := Aside0.mk hs1; have HS2 := Aside0.mk hs2; have HS2M := Aside0.mk hs2m; have HB := Aside0.mk hB; have HN3 := Aside0.mk hn3; have HCK := Aside0.mk hck
  clear h0 HK hbel hbox hsz0 hs1 hs2 hs2m hB hn3 h hck
  have hu24 := Try.underlying24
  unfold stepF
  rcases kind_cases o.f0 with e | e | e | e | e | e | e | e | e | e
  · rw [e] at hkind
    have E := Aside0.mk e
    clear e
    go_enter Try.func20, Try.ntmps20
    go_wp2_with fail
    refine hkind.mono ?_
    rintro e w1 ⟨rfl, hb1⟩
    have hd := HD.out.below hb1
    have hx := (hb1.block w.heap.size (by rw [HSZ.out]; omega)).trans HBX.out
    have c1 := cells_of hx 1 rfl
    have c2 := cells_of hx 2 rfl
    have c3 := cells_of hx 3 rfl
    have c4 := cells_of hx 4 rfl
    have hO1 := (Only.of_below HBL.out own).trans (Only.of_below hb1 own) (fun _ _ h => h)
    have HK1 : Aside0 (∀ W, Only w1 W own → Kd.C (Kd.int .i64) W Ak o.f4.length o.f4) := ⟨fun W hW => HKK.out W (hO1.trans hW (fun _ _ h => h))⟩
    have hB := HB.out; have hs1 := HS1.out; have hs2 := HS2.out; have hs2m := HS2M.out; have hn3 := HN3.out; have hck := HCK.out
    have hc := rCreate.calls hd hB.cnt hB.bd hB.fl o.f1 hs1
    have HO1 := Aside0.mk hO1
    clear hd hx hb1 hO1 hB hs1 hs2 hs2m hn3 hck
    go_wp2_with fail
    refine hc.mono ?_
    rintro e w2 ⟨rfl, hW⟩
    have HW := Aside0.mk (WentR.after HO1.out hW)
    clear hW hc
    go_wp2
    go_ret
    exact ⟨by rw [E.out]; rfl, by rw [E.out]; exact HW.out⟩
  · rw [e] at hkind
    have E := Aside0.mk e
    clear e
    go_enter Try.func20, Try.ntmps20
    go_wp2_with fail
    refine hkind.mono ?_
    rintro e w1 ⟨rfl, hb1⟩
    have hd := HD.out.below hb1
    have hx := (hb1.block w.heap.size (by rw [HSZ.out]; omega)).trans HBX.out
    have c1 := cells_of hx 1 rfl
    have c2 := cells_of hx 2 rfl
    have c3 := cells_of hx 3 rfl
    have c4 := cells_of hx 4 rfl
    have hO1 := (Only.of_below HBL.out own).trans (Only.of_below hb1 own) (fun _ _ h => h)
    have HK1 : Aside0 (∀ W, Only w1 W own → Kd.C (Kd.int .i64) W Ak o.f4.length o.f4) := ⟨fun W hW => HKK.out W (hO1.trans hW (fun _ _ h => h))⟩
    have hB := HB.out; have hs1 := HS1.out; have hs2 := HS2.out; have hs2m := HS2M.out; have hn3 := HN3.out; have hck := HCK.out
    have hc := rAppend.calls hd hB.cnt hB.bd hB.hv hB.fi (by have := hB.fl; omega) hB.sp hB.sp0 o.f1 o.f2 hs2
    have HO1 := Aside0.mk hO1
    clear hd hx hb1 hO1 hB hs1 hs2 hs2m hn3 hck
    go_wp2_with fail
    refine hc.mono ?_
    rintro e w2 ⟨rfl, hW⟩
    have HW := Aside0.mk (WentR.after HO1.out hW)
    clear hW hc
    go_wp2
    go_ret
    exact ⟨by rw [E.out]; rfl, by rw [E.out]; exact HW.out⟩
  · rw [e] at hkind
    have E := Aside0.mk e
    clear e
    go_enter Try.func20, Try.ntmps20
    go_wp2_with fail
    refine hkind.mono ?_
    rintro e w1 ⟨rfl, hb1⟩
    have hd := HD.out.below hb1
    have hx := (hb1.block w.heap.size (by rw [HSZ.out]; omega)).trans HBX.out
    have c1 := cells_of hx 1 rfl
    have c2 := cells_of hx 2 rfl
    have c3 := cells_of hx 3 rfl
    have c4 := cells_of hx 4 rfl
    have hO1 := (Only.of_below HBL.out own).trans (Only.of_below hb1 own) (fun _ _ h => h)
    have HK1 : Aside0 (∀ W, Only w1 W own → Kd.C (Kd.int .i64) W Ak o.f4.length o.f4) := ⟨fun W hW => HKK.out W (hO1.trans hW (fun _ _ h => h))⟩
    have hB := HB.out; have hs1 := HS1.out; have hs2 := HS2.out; have hs2m := HS2M.out; have hn3 := HN3.out; have hck := HCK.out
    have hc := rSync.calls hd hB.cnt hB.bd hB.hv o.f1
    have HO1 := Aside0.mk hO1
    clear hd hx hb1 hO1 hB hs1 hs2 hs2m hn3 hck
    go_wp2_with fail
    refine hc.mono ?_
    rintro e w2 ⟨rfl, hW⟩
    have HW := Aside0.mk (WentR.after HO1.out hW)
    clear hW hc
    go_wp2
    go_ret
    exact ⟨by rw [E.out]; rfl, by rw [E.out]; exact HW.out⟩
  · rw [e] at hkind
    have E := Aside0.mk e
    clear e
    go_enter Try.func20, Try.ntmps20
    go_wp2_with fail
    refine hkind.mono ?_
    rintro e w1 ⟨rfl, hb1⟩
    have hd := HD.out.below hb1
    have hx := (hb1.block w.heap.size (by rw [HSZ.out]; omega)).trans HBX.out
    have c1 := cells_of hx 1 rfl
    have c2 := cells_of hx 2 rfl
    have c3 := cells_of hx 3 rfl
    have c4 := cells_of hx 4 rfl
    have hO1 := (Only.of_below HBL.out own).trans (Only.of_below hb1 own) (fun _ _ h => h)
    have HK1 : Aside0 (∀ W, Only w1 W own → Kd.C (Kd.int .i64) W Ak o.f4.length o.f4) := ⟨fun W hW => HKK.out W (hO1.trans hW (fun _ _ h => h))⟩
    have hB := HB.out; have hs1 := HS1.out; have hs2 := HS2.out; have hs2m := HS2M.out; have hn3 := HN3.out; have hck := HCK.out
    have hc := rRename.calls hd hB.cnt hB.bd o.f1 o.f2 hs2m
    have HO1 := Aside0.mk hO1
    clear hd hx hb1 hO1 hB hs1 hs2 hs2m hn3 hck
    go_wp2_with fail
    refine hc.mono ?_
    rintro e w2 ⟨rfl, hW⟩
    have HW := Aside0.mk (WentR.after HO1.out hW)
    clear hW hc
    go_wp2
    go_ret
    exact ⟨by rw [E.out]; rfl, by rw [E.out]; exact HW.out⟩
  · rw [e] at hkind
    have E := Aside0.mk e
    clear e
    go_enter Try.func20, Try.ntmps20
    go_wp2_with fail
    refine hkind.mono ?_
    rintro e w1 ⟨rfl, hb1⟩
    have hd := HD.out.below hb1
    have hx := (hb1.block w.heap.size (by rw [HSZ.out]; omega)).trans HBX.out
    have c1 := cells_of hx 1 rfl
    have c2 := cells_of hx 2 rfl
    have c3 := cells_of hx 3 rfl
    have c4 := cells_of hx 4 rfl
    have hO1 := (Only.of_below HBL.out own).trans (Only.of_below hb1 own) (fun _ _ h => h)
    have HK1 : Aside0 (∀ W, Only w1 W own → Kd.C (Kd.int .i64) W Ak o.f4.length o.f4) := ⟨fun W hW => HKK.out W (hO1.trans hW (fun _ _ h => h))⟩
    have hB := HB.out; have hs1 := HS1.out; have hs2 := HS2.out; have hs2m := HS2M.out; have hn3 := HN3.out; have hck := HCK.out
    have hc := rRemove.calls hd hB.cnt hB.bd o.f1
    have HO1 := Aside0.mk hO1
    clear hd hx hb1 hO1 hB hs1 hs2 hs2m hn3 hck
    go_wp2_with fail
    refine hc.mono ?_
    rintro e w2 ⟨rfl, hW⟩
    have HW := Aside0.mk (WentR.after HO1.out hW)
    clear hW hc
    go_wp2
    go_ret
    exact ⟨by rw [E.out]; rfl, by rw [E.out]; exact HW.out⟩
  · rw [e] at hkind
    have E := Aside0.mk e
    clear e
    go_enter Try.func20, Try.ntmps20
    go_wp2_with fail
    refine hkind.mono ?_
    rintro e w1 ⟨rfl, hb1⟩
    have hd := HD.out.below hb1
    have hx := (hb1.block w.heap.size (by rw [HSZ.out]; omega)).trans HBX.out
    have c1 := cells_of hx 1 rfl
    have c2 := cells_of hx 2 rfl
    have c3 := cells_of hx 3 rfl
    have c4 := cells_of hx 4 rfl
    have hO1 := (Only.of_below HBL.out own).trans (Only.of_below hb1 own) (fun _ _ h => h)
    have HK1 : Aside0 (∀ W, Only w1 W own → Kd.C (Kd.int .i64) W Ak o.f4.length o.f4) := ⟨fun W hW => HKK.out W (hO1.trans hW (fun _ _ h => h))⟩
    have hB := HB.out; have hs1 := HS1.out; have hs2 := HS2.out; have hs2m := HS2M.out; have hn3 := HN3.out; have hck := HCK.out
    have hc := rSyncDir.calls hd hB.cnt
    have HO1 := Aside0.mk hO1
    clear hd hx hb1 hO1 hB hs1 hs2 hs2m hn3 hck
    go_wp2_with fail
    refine hc.mono ?_
    rintro e w2 ⟨rfl, hW⟩
    have HW := Aside0.mk (WentR.after HO1.out hW)
    clear hW hc
    go_wp2
    go_ret
    exact ⟨by rw [E.out]; rfl, by rw [E.out]; exact HW.out⟩
  · rw [e] at hkind
    have E := Aside0.mk e
    clear e
    go_enter Try.func20, Try.ntmps20
    go_wp2_with fail
    refine hkind.mono ?_
    rintro e w1 ⟨rfl, hb1⟩
    have hd := HD.out.below hb1
    have hx := (hb1.block w.heap.size (by rw [HSZ.out]; omega)).trans HBX.out
    have c1 := cells_of hx 1 rfl
    have c2 := cells_of hx 2 rfl
    have c3 := cells_of hx 3 rfl
    have c4 := cells_of hx 4 rfl
    have hO1 := (Only.of_below HBL.out own).trans (Only.of_below hb1 own) (fun _ _ h => h)
    have HK1 : Aside0 (∀ W, Only w1 W own → Kd.C (Kd.int .i64) W Ak o.f4.length o.f4) := ⟨fun W hW => HKK.out W (hO1.trans hW (fun _ _ h => h))⟩
    have hB := HB.out; have hs1 := HS1.out; have hs2 := HS2.out; have hs2m := HS2M.out; have hn3 := HN3.out; have hck := HCK.out
    have hc := rSpace.calls hd o.f3
    have HO1 := Aside0.mk hO1
    clear hd hx hb1 hO1 hB hs1 hs2 hs2m hn3 hck
    go_wp2_with fail
    refine hc.mono ?_
    rintro e w2 ⟨rfl, hW, hO⟩
    have HW := Aside0.mk (WentR.after HO1.out (WentR.same hW rfl (hO.mono fun k _ e => e ▸ HORB.out)))
    clear hW hc hO
    go_wp2
    go_ret
    exact ⟨by rw [E.out]; rfl, by rw [E.out]; exact HW.out⟩
  · rw [e] at hkind
    have E := Aside0.mk e
    clear e
    go_enter Try.func20, Try.ntmps20
    go_wp2_with fail
    refine hkind.mono ?_
    rintro e w1 ⟨rfl, hb1⟩
    have hd := HD.out.below hb1
    have hx := (hb1.block w.heap.size (by rw [HSZ.out]; omega)).trans HBX.out
    have c1 := cells_of hx 1 rfl
    have c2 := cells_of hx 2 rfl
    have c3 := cells_of hx 3 rfl
    have c4 := cells_of hx 4 rfl
    have hO1 := (Only.of_below HBL.out own).trans (Only.of_below hb1 own) (fun _ _ h => h)
    have HK1 : Aside0 (∀ W, Only w1 W own → Kd.C (Kd.int .i64) W Ak o.f4.length o.f4) := ⟨fun W hW => HKK.out W (hO1.trans hW (fun _ _ h => h))⟩
    have hB := HB.out; have hs1 := HS1.out; have hs2 := HS2.out; have hs2m := HS2M.out; have hn3 := HN3.out; have hck := HCK.out
    have hc := rStop.calls hd hB.cnt o.f3
    have HO1 := Aside0.mk hO1
    clear hd hx hb1 hO1 hB hs1 hs2 hs2m hn3 hck
    go_wp2_with fail
    refine hc.mono ?_
    rintro e w2 ⟨rfl, hW, hO⟩
    have HW := Aside0.mk (WentR.after HO1.out (WentR.same hW rfl (hO.mono fun k _ e => e ▸ HORB.out)))
    clear hW hc hO
    go_wp2
    go_ret
    exact ⟨by rw [E.out]; rfl, by rw [E.out]; exact HW.out⟩
  · rw [e] at hkind
    have E := Aside0.mk e
    clear e
    go_enter Try.func20, Try.ntmps20
    go_wp2_with fail
    refine hkind.mono ?_
    rintro e w1 ⟨rfl, hb1⟩
    have hd := HD.out.below hb1
    have hx := (hb1.block w.heap.size (by rw [HSZ.out]; omega)).trans HBX.out
    have c1 := cells_of hx 1 rfl
    have c2 := cells_of hx 2 rfl
    have c3 := cells_of hx 3 rfl
    have c4 := cells_of hx 4 rfl
    have hO1 := (Only.of_below HBL.out own).trans (Only.of_below hb1 own) (fun _ _ h => h)
    have HK1 : Aside0 (∀ W, Only w1 W own → Kd.C (Kd.int .i64) W Ak o.f4.length o.f4) := ⟨fun W hW => HKK.out W (hO1.trans hW (fun _ _ h => h))⟩
    have hB := HB.out; have hs1 := HS1.out; have hs2 := HS2.out; have hs2m := HS2M.out; have hn3 := HN3.out; have hck := HCK.out
    have hc := rRefuse.calls hd hB.cnt o.f3
    have HO1 := Aside0.mk hO1
    clear hd hx hb1 hO1 hB hs1 hs2 hs2m hn3 hck
    go_wp2_with fail
    refine hc.mono ?_
    rintro e w2 ⟨rfl, hW, hO⟩
    have HW := Aside0.mk (WentR.after HO1.out (WentR.same hW rfl (hO.mono fun k _ e => e ▸ HORB.out)))
    clear hW hc hO
    go_wp2
    go_ret
    exact ⟨by rw [E.out]; rfl, by rw [E.out]; exact HW.out⟩
  · rw [e] at hkind
    have E := Aside0.mk e
    clear e
    go_enter Try.func20, Try.ntmps20
    go_wp2_with fail
    refine hkind.mono ?_
    rintro e w1 ⟨rfl, hb1⟩
    have hd := HD.out.below hb1
    have hx := (hb1.block w.heap.size (by rw [HSZ.out]; omega)).trans HBX.out
    have c1 := cells_of hx 1 rfl
    have c2 := cells_of hx 2 rfl
    have c3 := cells_of hx 3 rfl
    have c4 := cells_of hx 4 rfl
    have hO1 := (Only.of_below HBL.out own).trans (Only.of_below hb1 own) (fun _ _ h => h)
    have HK1 : Aside0 (∀ W, Only w1 W own → Kd.C (Kd.int .i64) W Ak o.f4.length o.f4) := ⟨fun W hW => HKK.out W (hO1.trans hW (fun _ _ h => h))⟩
    have hB := HB.out; have hs1 := HS1.out; have hs2 := HS2.out; have hs2m := HS2M.out; have hn3 := HN3.out; have hck := HCK.out
    have hc := rCrash.calls hd hB.cr o.f3 hn3 Ak ck o.f4 (fun W hW => HK1.out W hW) hck
    have HO1 := Aside0.mk hO1
    clear hd hx hb1 hO1 hB hs1 hs2 hs2m hn3 hck
    go_wp2_with fail
    refine hc.mono ?_
    rintro e w2 ⟨rfl, hW⟩
    have HW := Aside0.mk (WentR.after HO1.out hW)
    clear hW hc
    go_wp2
    go_ret
    exact ⟨by rw [E.out]; rfl, by rw [E.out]; exact HW.out⟩
end
end Go.Proofs.Ytephblclhojffaa.A
