/- JournalLast: of deeds that were written Replay tells of each key the last one. -/
import Derived.Test.YtojcbknclfamhaaDoorKlAx0
import Derived.Test.YtojcbknclfamhaaDoorKlAx10
import Derived.Test.YtojcbknclfamhaaDoorKlAx14
import Derived.Test.YtojcbknclfamhaaDoorKlAx17
import Derived.Test.YtojcbknclfamhaaDoorKlHPC
namespace Go.Proofs.YtojcbknclfamhaaDoor.A
open Go.RowKit Go.Proofs.YtojcbknclfamhaaDoorW.PrintWords Go.Proofs.YtojcbknclfamhaaDoorW.PrintLast Go.Proofs.YtojcbknclfamhaaDoorW.PrintMore
attribute [local go_sem] min2_int min_two
attribute [local go_sem high] eqA45
set_option linter.unusedVariables false
set_option linter.unusedSimpArgs false
theorem C_str1 (w : World) (b : Nat) (t : ByteArray) (h : w.heap[b]? = some (.cells #[.string t] 9 (0, 0))) : Kd.C Kd.string w (some ⟨b, 0, none⟩) [t].length [t] := by
  refine ⟨rfl, by simp, fun _ => ⟨_, rfl, fun j p hj => ?_⟩⟩
  obtain ⟨rfl, rfl⟩ : j = 0 ∧ p = t := by
    cases j with
    | zero => simp at hj; exact ⟨rfl, hj.symm⟩
    | succ j => simp at hj
  refine ⟨[.string p], rfl, rfl, fun i u hu => ?_⟩
  cases i with
  | zero => simp at hu; rw [← hu]; exact blk_cell h 0
  | succ i => simp at hu
theorem cell_on {W W' : World} (h : Below W.heap.size W W') {p : Addr} {v : Value} (hc : W.cell? p = some v) : W'.cell? p = some v := (h.cell (World.block_lt_of_cell? W _ hc)).trans hc
theorem deed_at {W : World} {A : Option Addr} {xs : List S36} (h : Kd.C k36 W A xs.length xs) (i : Nat) (hi : i < xs.length) (hlen : 0 < xs[i].f1.length) : ∃ ad c3 ad3, A = some ad ∧ W.cell? (ad.add (i * 2)) = some (.bool xs[i].f0) ∧ W.cell? ⟨(ad.add (i * 2)).block, (ad.add (i * 2)).off + 1, none⟩ = some (.slice (some ad3) xs[i].f1.length c3) ∧ xs[i].f1.length ≤ c3 ∧ Kd.C k45 W (some ad3) xs[i].f1.length xs[i].f1 ∧ W.cell? ad3 = some (.bool (keyOf xs[i]).f0) ∧ W.cell? ⟨ad3.block, ad3.off + 1, none⟩ = some (.int .i64 (keyOf xs[i]).f1) ∧ W.cell? ⟨ad3.block, ad3.off + 2, none⟩ = some (.string (keyOf xs[i]).f2) := by
  obtain ⟨ad, A3, c3, rfl, hx0, hx1, hc3, hC3⟩ := at_T36 h (i : Int) (by omega) (by omega)
  have hrd : rd_T36 xs (i : Int) = xs[i] := by simp [rd_T36, List.getD, hi]
  rw [hrd] at hx0 hx1 hc3 hC3
  rw [Int.toNat_natCast] at hx0 hx1
  obtain ⟨ad3, rfl, hy0, hy1, hy2⟩ := at_T45 hC3 0 (by omega) (by omega)
  have e00 : Int.toNat 0 * 3 = 0 := rfl
  rw [show rd_T45 xs[i].f1 0 = keyOf xs[i] from rfl] at hy0 hy1 hy2
  rw [e00, Addr.add_zero'] at hy0 hy1 hy2
  exact ⟨ad, c3, ad3, rfl, hx0, hx1, hc3, hC3, hy0, hy1, hy2⟩
set_option maxHeartbeats 16000000 in
set_option maxRecDepth 100000 in
theorem last_calls (A0 : Option Addr) (c0 : Nat) (l0 : List S50) (A1 : Option Addr) (c1 : Nat) (l1 : List S36) (w : World) (hr0 : Kd.C k50 w A0 l0.length l0) (hc0 : l0.length ≤ c0) (hr1 : Kd.C k36 w A1 l1.length l1) (hc1 : l1.length ≤ c1) (h64 : ∀ d ∈ l1, ∀ v ∈ d.f1, In64 v) :
    Calls Tryd.prog 6 #[.slice A0 l0.length c0, .slice A1 l1.length c1] w fun e w' => e = .returned (.bool true) ∧ Below w.heap.size w w' := by
  have hu28 := Tryd.underlying28
  have hu36 := Tryd.underlying36
  have hu43 := Tryd.underlying43
  have hu34 := Tryd.underlying34
  have hu45 := Tryd.underlying45
  have HR0 := Aside0.mk hr0; have HR1 := Aside0.mk hr1; have HC0 := Aside0.mk hc0; have HC1 := Aside0.mk hc1; have H64 := Aside0.mk h64
  clear hr0 hr1 hc0 hc1 h64
  go_enter Tryd.func6, Tryd.ntmps6
  go_wp2_with fail
  refine (tithebarnlaw15_lives.calls 3000 true w lives_T).mono ?_
  rintro e w1 ⟨rfl, hb1⟩
  have HB1 := Aside0.mk hb1
  clear hb1
  obtain ⟨n, hn⟩ : ∃ n, n = min l1.length 100 := ⟨_, rfl⟩
  have hif : (if (100 : Int) < (l1.length : Int) then (100 : Int) else (l1.length : Int)) = (n : Int) := by split <;> omega
  have hn1 : n ≤ l1.length := by omega
  have hn2 : n ≤ 100 := by omega
  have e1 : (0 : Int) ≤ (n : Int) := by omega
  have e2 : (n : Int) ≤ (c1 : Int) := by have := HC1.out; omega
  have e3 : n ≤ c1 := by have := HC1.out; omega
  have HN := Aside0.mk (And.intro hn1 hn2)
  clear hn
  go_upto_block 0 with fail
  have hx : ∃ x1, x1 = l1.take n ∧ x1.length = n ∧ ∀ d ∈ x1, ∀ v ∈ d.f1, In64 v := ⟨_, rfl, by rw [List.length_take]; omega, fun d hd => H64.out d (List.mem_of_mem_take hd)⟩
  obtain ⟨x1, hx1, hxl, hx64⟩ := hx
  have HRX : Aside0 (Kd.C k36 w A1 x1.length x1) := ⟨by have h := Kd.C_take HR1.out hn1; rw [← hx1] at h; exact h⟩
  subst hxl
  have HX64 := Aside0.mk hx64
  clear hx1 hx64 hif hn1 hn2 e1 e2 e3 H64 HR1 HC1
  go_wp2_with fail
  go_loopg [5, 6] x1.length (fun gg s5 s6 wr => ∃ (i : Nat) (t : ByteArray), i ≤ x1.length ∧ x1.length - i ≤ gg ∧ s6 = .int .i64 (i : Int) ∧ s5 = .string t ∧ Aside0 (Below w.heap.size w wr) ∧ Aside0 (∀ d ∈ x1.take i, DeedOk l0 d) ∧ Aside0 (bytesOf t = segB l0 (x1.take i)))
  case atStart => exact ⟨0, ⟨#[]⟩, by omega, by omega, rfl, rfl, HB1, ⟨fun d hd => by simp at hd⟩, ⟨rfl⟩⟩
  case round =>
    clear HB1
    rename World => wr
    obtain ⟨i, t, hi, hgg, rfl, rfl, HB, HOK, HBT⟩ := hrel
    by_cases hlt : i < x1.length
    · obtain ⟨ad, A3, c3, rfl, hx0, hx1, hc3, hC3⟩ := at_T36 (Kd.C_below HRX.out HB.out) (i : Int) (by omega) (by omega)
      have hrd : rd_T36 x1 (i : Int) = x1[i] := by simp [rd_T36, List.getD, hlt]
      rw [hrd] at hx0 hx1 hc3 hC3
      rw [Int.toNat_natCast] at hx0 hx1
      obtain ⟨t2, er, hw, hw2⟩ := write_all 3000 (by omega) l0 x1[i] (HX64.out _ (List.getElem_mem hlt))
      have htk : x1.take (i + 1) = x1.take i ++ [x1[i]] := by rw [List.take_add_one, List.getElem?_eq_getElem hlt]; rfl
      have s1 := segB_length l0 (x1.take i) HOK.out
      have hts : t.size ≤ 140000 := by rw [← bytesOf_length, HBT.out]; have : (x1.take i).length ≤ 100 := by { rw [List.length_take]; have := HN.out.2; omega }; omega
      have HW := Aside0.mk hw; have HW2 := Aside0.mk hw2; have HTK := Aside0.mk htk; have HTS := Aside0.mk hts; have HC3 := Aside0.mk hC3; have HLC := Aside0.mk hc3; have HI := Aside0.mk (And.intro hlt hgg)
      have e1 : decide ((i : Int) < (x1.length : Int)) = true := decide_eq_true (by omega)
      have e2 : decide (i < x1.length) = true := decide_eq_true hlt
      have e3 : (0 ≤ (i : Int)) = True := eq_true (by omega)
      have e4 : ((i : Int) < (x1.length : Int)) = True := eq_true (by omega)
      have e4b : (i < x1.length) = True := eq_true hlt
      have e5 : IntKind.i64.wrap ((i : Int) + 1) = ((i + 1 : Nat) : Int) := by
        have := HN.out.2
        rw [IntWalk.i64_in _ (by omega)]; rfl
      generalize x1[i] = d at *
      obtain ⟨g, row⟩ := d
      clear hrd hw hw2 htk hts s1 hC3 hc3 hlt hgg hi
      go_wp2_with fail
      refine (journal_Write.calls 3000 A0 c0 l0 g A3 c3 row t2 er wr (Kd.C_below HR0.out HB.out) HC0.out HC3.out HLC.out HW.out).mono ?_
      rintro e w2 ⟨rfl, hb2⟩
      have HB2 := Aside0.mk (HB.out.trans (hb2.mono HB.out.size))
      clear hb2 hx0 hx1
      by_cases her : er = 0
      · subst her
        obtain ⟨p1, p2, p3⟩ := HW2.out rfl
        have hsz : t.size + t2.size ≤ 9223372036854775807 := by have := HTS.out; omega
        have hok' : Aside0 (∀ d ∈ x1.take (i + 1), DeedOk l0 d) := ⟨fun d hd => by
          rw [HTK.out, List.mem_append] at hd
          rcases hd with hd | hd
          · exact HOK.out d hd
          · simp at hd; rw [hd]; exact p1⟩
        have hbt' : Aside0 (bytesOf (t ++ t2) = segB l0 (x1.take (i + 1))) := ⟨by rw [bytesOf_append, HBT.out, p2, HTK.out, segB_append]⟩
        clear p1 p2 p3
        go_wp2_with fail
        go_roundg (x1.length - (i + 1))
        case measure => have := HI.out; omega
        case rel => exact ⟨i + 1, t ++ t2, by have := HI.out.1; omega, Nat.le_refl _, rfl, rfl, HB2, hok', hbt'⟩
      · have e6 : (er == 0) = false := beq_eq_false_iff_ne.mpr her
        have e7 : (er != 0) = true := by simp [her]
        go_wp2_with fail
        go_ret
        exact ⟨rfl, HB2.out⟩
    · have e1 : decide ((i : Int) < (x1.length : Int)) = false := decide_eq_false (by omega)
      have e2 : decide (i < x1.length) = false := decide_eq_false hlt
      obtain rfl : i = x1.length := by omega
      rw [List.take_length] at HOK HBT
      clear hgg hi
      go_wp2_with fail
      obtain ⟨D, er, hrep, hD0, hD1⟩ := replay_all 3000 l0 x1 t HOK.out HN.out.2 HBT.out (by omega)
      have kst := blk_new wr (.cells #[.string t] 9)
      refine (journal_Replay.calls 3000 A0 c0 l0 (some ⟨wr.heap.size, 0, none⟩) 1 [t] D er _ (Kd.C_below (Kd.C_below HR0.out HB.out) (below_alloc (Below.refl _ _) _)) HC0.out (C_str1 _ _ _ kst) (Nat.le_refl _) hrep).mono ?_
      rintro e w3 ⟨V, rfl, hSD, hb3⟩
      have hall : Below w.heap.size w w3 := HB.out.trans (((below_alloc (Below.refl _ wr) (.cells #[.string t] 9)).trans (hb3.mono (by rw [World.size_alloc]; omega))).mono HB.out.size)
      obtain ⟨A5, c5, rfl, hc5, hC5⟩ := Kd.R_reads (Kd.S_R hSD)
      have HX3 := Aside0.mk (Kd.C_below HRX.out hall); have HALL := Aside0.mk hall; have HC5 := Aside0.mk hC5; have HL5 := Aside0.mk hc5; have HD0 := Aside0.mk hD0; have HD1 := Aside0.mk hD1
      clear kst hrep hD0 hD1 hSD hb3 hall hc5 hC5 HBT HB e1 e2
      by_cases hx0 : x1.length = 0
      · have hxn : x1 = [] := List.eq_nil_of_length_eq_zero hx0
        have hDn := HD0.out hxn
        have e3 : ((x1.length : Int) == 0) = true := by rw [hx0]; rfl
        have e3b : (x1.length == 0) = true := by rw [hx0]; rfl
        have e4 : ((D.length : Int) == 0) = true := by rw [hDn]; rfl
        have e4b : (D.length == 0) = true := by rw [hDn]; rfl
        clear hxn hDn hx0
        go_wp2_with fail
        go_ret
        exact ⟨rfl, HALL.out⟩
      · have e3 : ((x1.length : Int) == 0) = false := beq_eq_false_iff_ne.mpr (by omega)
        have e3b : (x1.length == 0) = false := beq_eq_false_iff_ne.mpr hx0
        obtain ⟨rfl, hD, hDl, hDm⟩ := HD1.out (fun h => hx0 (by rw [h]; rfl))
        have HDA := Aside0.mk hD; have HDL := Aside0.mk hDl; have HDM := Aside0.mk hDm; have HX0 := Aside0.mk hx0
        clear hD hDl hDm hx0 HD0 HD1
        go_upto_block 2 with fail
        go_wp2_with fail
        go_loopg [11] x1.length (fun gg s11 wo => ∃ i : Nat, i ≤ x1.length ∧ x1.length - i ≤ gg ∧ s11 = .int .i64 (i : Int) ∧ Aside0 (Below w3.heap.size w3 wo))
        case atStart => exact ⟨0, by omega, by omega, rfl, ⟨Below.refl _ _⟩⟩
        case round =>
          rename World => wo
          obtain ⟨i, hi, hgg, rfl, HBO⟩ := hrel
          by_cases hlt : i < x1.length
          · obtain ⟨ad, c6, ad6, rfl, hx0, hx1, hc6, hC6, hk0, hk1, hk2⟩ := deed_at HX3.out i hlt (deed_len0 (HOK.out _ (List.getElem_mem hlt)))
            have y0 := cell_on HBO.out hx0
            have y1 := cell_on HBO.out hx1
            have HMI := Aside0.mk (HOK.out _ (List.getElem_mem hlt)); have HMX := Aside0.mk (List.getElem_mem hlt)
            have HDI : Aside0 (x1[i]? = some x1[i]) := ⟨List.getElem?_eq_getElem hlt⟩
            have HI := Aside0.mk (And.intro hlt hgg)
            have HX0' := Aside0.mk hx0; have HX1' := Aside0.mk hx1; have HC6 := Aside0.mk (And.intro hc6 hC6); have HK0 := Aside0.mk hk0; have HK1 := Aside0.mk hk1; have HK2 := Aside0.mk hk2
            have e1 : decide ((i : Int) < (x1.length : Int)) = true := decide_eq_true (by omega)
            have e2 : decide (i < x1.length) = true := decide_eq_true hlt
            have e3' : (0 ≤ (i : Int)) = True := eq_true (by omega)
            have e4 : ((i : Int) < (x1.length : Int)) = True := eq_true (by omega)
            have e4b : (i < x1.length) = True := eq_true hlt
            have e5 : IntKind.i64.wrap ((i : Int) + 1) = ((i + 1 : Nat) : Int) := by
              have := HN.out.2
              rw [IntWalk.i64_in _ (by omega)]; rfl
            generalize x1[i] = di at *
            obtain ⟨g, row⟩ := di
            clear hx0 hx1 hc6 hC6 hk0 hk1 hk2 hi hgg hlt
            go_upto_block 4 with fail
            have hbo := below_alloc HBO.out (.cells #[.bool g, .slice (some ad6) row.length c6] 36)
            have hbx := blk_new wo (.cells #[.bool g, .slice (some ad6) row.length c6] 36)
            have HBO2 := Aside0.mk hbo; have HBX := Aside0.mk hbx
            have HWO := Aside0.mk HBO.out.size
            clear hbo hbx y0 y1 HBO
            generalize wo.alloc (.cells #[.bool g, .slice (some ad6) row.length c6] 36) = wo2 at *
            generalize wo.heap.size = bq at *
            go_cut [] (fun wk => ∃ (d : S36) (A : Option Addr) (c : Nat), Aside0 (Below w3.heap.size w3 wk) ∧ Aside0 (wk.heap[bq]? = some (.cells #[.bool d.f0, .slice A d.f1.length c] 36 (0, 0))) ∧ Aside0 (d.f1.length ≤ c ∧ Kd.C k45 w3 A d.f1.length d.f1 ∧ d ∈ x1 ∧ keyB (keyOf d) (keyOf ⟨g, row⟩) = true ∧ (ofKey (keyOf ⟨g, row⟩) x1).getLast? = some d))
            case first =>
              go_wp2_with fail
              go_loopg [13] x1.length (fun gg s13 wk => ∃ (k : Nat) (d : S36) (A : Option Addr) (c : Nat), i ≤ k ∧ k ≤ x1.length ∧ x1.length - k ≤ gg ∧ s13 = .int .i64 (k : Int) ∧ Aside0 (Below w3.heap.size w3 wk) ∧ Aside0 (wk.heap[bq]? = some (.cells #[.bool d.f0, .slice A d.f1.length c] 36 (0, 0))) ∧ Aside0 (d.f1.length ≤ c ∧ Kd.C k45 w3 A d.f1.length d.f1 ∧ d ∈ x1 ∧ keyB (keyOf d) (keyOf ⟨g, row⟩) = true ∧ (i < k → (ofKey (keyOf ⟨g, row⟩) (x1.take k)).getLast? = some d)))
              case atStart => exact ⟨i, ⟨g, row⟩, some ad6, c6, Nat.le_refl _, by have := HI.out; omega, by omega, rfl, HBO2, HBX, ⟨HC6.out.1, HC6.out.2, HMX.out, keyB_refl _, fun h => absurd h (Nat.lt_irrefl _)⟩⟩
              case round =>
                clear HBO2 HBX
                rename World => wk
                obtain ⟨k, d, A, c, hik, hk, hgg, rfl, HBK, HBX, HQ⟩ := hrel
                have hbd := HBX.out
                by_cases hlt : k < x1.length
                · obtain ⟨ad', c7, ad7, had, hy0, hy1, hc7, hC7, hz0, hz1, hz2⟩ := deed_at HX3.out k hlt (deed_len0 (HOK.out _ (List.getElem_mem hlt)))
                  obtain rfl := Option.some.inj had
                  have y0 := cell_on HBK.out hy0
                  have y1 := cell_on HBK.out hy1
                  have y2 := cell_on HBK.out hz0
                  have y3 := cell_on HBK.out hz1
                  have y4 := cell_on HBK.out hz2
                  have x0 := cell_on HBK.out HX0'.out
                  have x1' := cell_on HBK.out HX1'.out
                  have x2 := cell_on HBK.out HK0.out
                  have x3 := cell_on HBK.out HK1.out
                  have x4 := cell_on HBK.out HK2.out
                  have b0 := blk_cell hbd 0
                  have b1 := blk_cell hbd 1
                  have f0 := blk_frozen hbd 0
                  have f1 := blk_frozen hbd 1
                  have htk : x1.take (k + 1) = x1.take k ++ [x1[k]] := by rw [List.take_add_one, List.getElem?_eq_getElem hlt]; rfl
                  have hxk : k = i → x1[k] = ⟨g, row⟩ := fun e => by
                    have h1 := List.getElem?_eq_getElem hlt
                    have h2 := HDI.out
                    rw [← e, h1] at h2
                    exact Option.some.inj h2
                  have HMK := Aside0.mk (List.getElem_mem hlt); have HTK := Aside0.mk htk; have HXK := Aside0.mk hxk; have HC7 := Aside0.mk (And.intro hc7 hC7); have HKG := Aside0.mk (And.intro hik (And.intro hlt hgg))
                  have hl7 := deed_len0 (HOK.out _ (List.getElem_mem hlt))
                  have hl6 := deed_len0 HMI.out
                  have q1 : decide ((k : Int) < (x1.length : Int)) = true := decide_eq_true (by omega)
                  have q2 : decide (k < x1.length) = true := decide_eq_true hlt
                  have q3 : (0 ≤ (k : Int)) = True := eq_true (by omega)
                  have q4 : ((k : Int) < (x1.length : Int)) = True := eq_true (by omega)
                  have q4b : (k < x1.length) = True := eq_true hlt
                  have q5 : IntKind.i64.wrap ((k : Int) + 1) = ((k + 1 : Nat) : Int) := by
                    have := HN.out.2
                    rw [IntWalk.i64_in _ (by omega)]; rfl
                  have q6 : (0 < (row.length : Int)) = True := eq_true (by simp only at hl6; omega)
                  have q6b : (0 < row.length) = True := eq_true hl6
                  have q7 : (0 < ((x1[k]).f1.length : Int)) = True := eq_true (by omega)
                  have q7b : (0 < (x1[k]).f1.length) = True := eq_true hl7
                  have HKB : Aside0 ((((keyOf x1[k]).f0 == (keyOf ⟨g, row⟩).f0) && (((keyOf x1[k]).f1 == (keyOf ⟨g, row⟩).f1) && ((keyOf x1[k]).f2.toList == (keyOf ⟨g, row⟩).f2.toList))) = keyB (keyOf x1[k]) (keyOf ⟨g, row⟩)) := ⟨rfl⟩
                  generalize x1[k] = dk at *
                  obtain ⟨gk2, rowk⟩ := dk
                  clear hy0 hy1 hc7 hC7 hz0 hz1 hz2 htk hxk hik hk hgg hlt hl7 hl6 hbd had
                  by_cases hkb : keyB (keyOf ⟨gk2, rowk⟩) (keyOf ⟨g, row⟩) = true
                  · have hkk := HKB.out.trans hkb
                    have HKT := Aside0.mk hkb
                    clear hkb
                    go_wp2_with fail
                    go_quiet (fail)
                    go_wp2_with fail
                    go_roundg (x1.length - (k + 1))
                    case measure => have := HKG.out; omega
                    case rel => exact ⟨k + 1, ⟨gk2, rowk⟩, some ad7, c7, by have := HKG.out; omega, by have := HKG.out; omega, Nat.le_refl _, rfl, ⟨((pw_below_drewN HBK.out _).setCell (p := ⟨bq, 0, none⟩) HWO.out _).setCell (p := ⟨bq, 1, none⟩) HWO.out _⟩, ⟨blk_set (blk_set (show (wk.drewN _).heap[bq]? = _ from HBX.out) 0 (.bool gk2)) 1 (.slice (some ad7) rowk.length c7)⟩, ⟨HC7.out.1, HC7.out.2, HMK.out, HKT.out, fun _ => by rw [HTK.out, ofKey_snoc, if_pos HKT.out, List.getLast?_concat]⟩⟩
                  · have hkk := HKB.out.trans (Bool.eq_false_iff.mpr hkb)
                    have HKT := Aside0.mk hkb
                    clear hkb
                    go_wp2_with fail
                    go_quiet (fail)
                    go_wp2_with fail
                    go_roundg (x1.length - (k + 1))
                    case measure => have := HKG.out; omega
                    case rel =>
                      have hne : i < k := by
                        have h1 := HKG.out.1
                        rcases Nat.lt_or_ge i k with h | h
                        · exact h
                        · exact absurd (by rw [HXK.out (by omega)]; exact keyB_refl _) HKT.out
                      exact ⟨k + 1, d, A, c, by omega, by have := HKG.out; omega, Nat.le_refl _, rfl, ⟨pw_below_drewN HBK.out _⟩, ⟨HBX.out⟩, ⟨HQ.out.1, HQ.out.2.1, HQ.out.2.2.1, HQ.out.2.2.2.1, fun _ => by rw [HTK.out, ofKey_snoc, if_neg HKT.out]; exact HQ.out.2.2.2.2 hne⟩⟩
                · have q1 : decide ((k : Int) < (x1.length : Int)) = false := decide_eq_false (by omega)
                  have q2 : decide (k < x1.length) = false := decide_eq_false hlt
                  have hlast := HQ.out.2.2.2.2 (by have := HI.out; omega)
                  rw [List.take_of_length_le (by omega)] at hlast
                  have HQ2 := Aside0.mk (And.intro HQ.out.1 (And.intro HQ.out.2.1 (And.intro HQ.out.2.2.1 (And.intro HQ.out.2.2.2.1 hlast))))
                  clear hik hk hgg hlt hlast hbd
                  go_wp2_with fail
                  go_meet
                  case rel => exact ⟨d, A, c, HBK, HBX, HQ2⟩
            case rest =>
              obtain ⟨d, A7, c7, HBK, HBX2, HQ⟩ := hcut
              have hof := last_of (fun x hx => deed_key (HOK.out x hx)) HDA.out (keyOf ⟨g, row⟩) d HQ.out.2.2.2.2
              have hdok := HOK.out d HQ.out.2.2.1
              obtain ⟨ad8, rfl, hv0, hv1, hv2⟩ := at_T45 HQ.out.2.1 0 (by omega) (by have := deed_len0 hdok; omega)
              have e00 : Int.toNat 0 * 3 = 0 := rfl
              rw [show rd_T45 d.f1 0 = keyOf d from rfl] at hv0 hv1 hv2
              rw [e00, Addr.add_zero'] at hv0 hv1 hv2
              have HOF := Aside0.mk hof; have HDOK := Aside0.mk hdok; have HV0 := Aside0.mk hv0; have HV1 := Aside0.mk hv1; have HV2 := Aside0.mk hv2
              clear hof hdok hv0 hv1 hv2 HBO2 HBX
              go_upto_block 6 with fail
              go_cut [14] (fun s14 wz => s14 = .int .i64 1 ∧ Aside0 (Below w3.heap.size w3 wz))
              case first =>
                go_wp2_with fail
                go_loopg [14, 15] D.length (fun gg s14 s15 wz => ∃ j : Nat, j ≤ D.length ∧ D.length - j ≤ gg ∧ s15 = .int .i64 (j : Int) ∧ s14 = .int .i64 (((ofKey (keyOf ⟨g, row⟩) (D.take j)).length : Nat) : Int) ∧ Aside0 (Below w3.heap.size w3 wz) ∧ Aside0 (wz.heap[bq]? = some (.cells #[.bool d.f0, .slice (some ad8) d.f1.length c7] 36 (0, 0))))
                case atStart => exact ⟨0, by omega, by omega, rfl, rfl, HBK, HBX2⟩
                case round =>
                  clear HBK HBX2
                  rename World => wz
                  obtain ⟨j, hj, hgg, rfl, rfl, HBK, HBX⟩ := hrel
                  have hbd := HBX.out
                  by_cases hlt : j < D.length
                  · have hmD := HDM.out _ (List.getElem_mem hlt)
                    obtain ⟨ad9, c9, ad10, had, hy0, hy1, hc9, hC9, hz0, hz1, hz2⟩ := deed_at HC5.out j hlt (deed_len0 (HOK.out _ hmD))
                    subst had
                    have y0 := cell_on HBK.out hy0
                    have y1 := cell_on HBK.out hy1
                    have y2 := cell_on HBK.out hz0
                    have y3 := cell_on HBK.out hz1
                    have y4 := cell_on HBK.out hz2
                    have x2 := cell_on HBK.out HV0.out
                    have x3 := cell_on HBK.out HV1.out
                    have x4 := cell_on HBK.out HV2.out
                    have b0 := (blk_cell hbd 0).trans (show #[Value.bool d.f0, .slice (some ad8) d.f1.length c7][0]? = some (.bool d.f0) from rfl)
                    have b1 := (blk_cell hbd 1).trans (show #[Value.bool d.f0, .slice (some ad8) d.f1.length c7][1]? = some (.slice (some ad8) d.f1.length c7) from rfl)
                    have htk : D.take (j + 1) = D.take j ++ [D[j]] := by rw [List.take_add_one, List.getElem?_eq_getElem hlt]; rfl
                    have hin : keyB (keyOf D[j]) (keyOf ⟨g, row⟩) = true → D[j] = d := fun h => by
                      have hm : D[j] ∈ ofKey (keyOf ⟨g, row⟩) D := List.mem_filter.2 ⟨List.getElem_mem hlt, h⟩
                      rw [HOF.out] at hm
                      simpa using hm
                    have hol : (ofKey (keyOf ⟨g, row⟩) (D.take j)).length ≤ 100 := by
                      have h1 := List.length_filter_le (fun x => keyB (keyOf x) (keyOf ⟨g, row⟩)) (D.take j)
                      rw [List.length_take] at h1
                      have := HDL.out; have := HN.out.2
                      unfold ofKey
                      omega
                    have HTK := Aside0.mk htk; have HIN := Aside0.mk hin; have HC9 := Aside0.mk (And.intro hc9 hC9); have HJ := Aside0.mk (And.intro hlt hgg); have HMD := Aside0.mk hmD
                    have hl9 := deed_len0 (HOK.out _ hmD)
                    have hl8 := deed_len0 HDOK.out
                    have q1 : decide ((j : Int) < (D.length : Int)) = true := decide_eq_true (by omega)
                    have q2 : decide (j < D.length) = true := decide_eq_true hlt
                    have q3 : (0 ≤ (j : Int)) = True := eq_true (by omega)
                    have q4 : ((j : Int) < (D.length : Int)) = True := eq_true (by omega)
                    have q4b : (j < D.length) = True := eq_true hlt
                    have q5 : IntKind.i64.wrap ((j : Int) + 1) = ((j + 1 : Nat) : Int) := by
                      have := HN.out.2; have := HDL.out
                      rw [IntWalk.i64_in _ (by omega)]; rfl
                    have q8 : IntKind.i64.wrap (((ofKey (keyOf ⟨g, row⟩) (D.take j)).length : Int) + 1) = (((ofKey (keyOf ⟨g, row⟩) (D.take j)).length + 1 : Nat) : Int) := by
                      rw [IntWalk.i64_in _ (by omega)]; rfl
                    have q6 : (0 < (d.f1.length : Int)) = True := eq_true (by omega)
                    have q6b : (0 < d.f1.length) = True := eq_true hl8
                    have q7 : (0 < ((D[j]).f1.length : Int)) = True := eq_true (by omega)
                    have q7b : (0 < (D[j]).f1.length) = True := eq_true hl9
                    have HKB : Aside0 ((((keyOf D[j]).f0 == (keyOf d).f0) && (((keyOf D[j]).f1 == (keyOf d).f1) && ((keyOf D[j]).f2.toList == (keyOf d).f2.toList))) = keyB (keyOf D[j]) (keyOf d)) := ⟨rfl⟩
                    generalize D[j] = dj at *
                    clear hy0 hy1 hc9 hC9 hz0 hz1 hz2 htk hin hj hgg hlt hl9 hl8 hbd hmD hol
                    by_cases hkb : keyB (keyOf dj) (keyOf d) = true
                    · have hkg := keyB_trans hkb HQ.out.2.2.2.1
                      obtain rfl := HIN.out hkg
                      have hkk := HKB.out.trans hkb
                      have HKT := Aside0.mk hkg
                      clear hkb hkg
                      go_wp2_with fail
                      go_quiet (fail)
                      go_wp2_with fail
                      have hsm := same_one 3000 dj (deed_len HDOK.out) (by omega)
                      have HSM := Aside0.mk hsm
                      clear hsm
                      go_region_with (first | (go_at_call 16; refine (tithebarnref07_Same.calls 3000 dj.f0 (some ad10) c9 dj.f1 dj.f0 (some ad8) c7 dj.f1 true _ (Kd.C_below HC9.out.2 (pw_below_drewN HBK.out _)) HC9.out.1 (Kd.C_below HQ.out.2.1 (pw_below_drewN HBK.out _)) HQ.out.1 HSM.out).mono ?_; rintro e wv ⟨rfl, hb⟩; (have HBv := Aside0.mk ((pw_below_drewN HBK.out _).trans (hb.mono HBK.out.size))); (have HXv : Aside0 (wv.heap[bq]? = some (.cells #[.bool dj.f0, .slice (some ad8) dj.f1.length c7] 36 (0, 0))) := ⟨(hb.block _ (Array.getElem?_eq_some_iff.1 HBX.out).1).trans HBX.out⟩); clear hb))
                      all_goals (
                        go_wp2_with fail
                        go_roundg (D.length - (j + 1))
                        case measure => have := HJ.out; omega
                        case rel => exact ⟨j + 1, by have := HJ.out; omega, Nat.le_refl _, rfl, by rw [HTK.out, ofKey_snoc, if_pos HKT.out, List.length_append]; rfl, HBv, HXv⟩)
                    · have hkk := HKB.out.trans (Bool.eq_false_iff.mpr hkb)
                      have HKT : Aside0 (¬ keyB (keyOf dj) (keyOf ⟨g, row⟩) = true) := ⟨fun h => hkb (keyB_trans h (keyB_symm HQ.out.2.2.2.1))⟩
                      clear hkb
                      go_wp2_with fail
                      go_quiet (fail)
                      go_wp2_with fail
                      go_roundg (D.length - (j + 1))
                      case measure => have := HJ.out; omega
                      case rel => exact ⟨j + 1, by have := HJ.out; omega, Nat.le_refl _, rfl, by rw [HTK.out, ofKey_snoc, if_neg HKT.out], ⟨pw_below_drewN HBK.out _⟩, ⟨HBX.out⟩⟩
                  · have q1 : decide ((j : Int) < (D.length : Int)) = false := decide_eq_false (by omega)
                    have q2 : decide (j < D.length) = false := decide_eq_false hlt
                    obtain rfl : j = D.length := by omega
                    clear hgg hlt hj hbd
                    go_wp2_with fail
                    go_meet
                    case rel => exact ⟨by rw [List.take_length, HOF.out]; rfl, HBK⟩
              case rest =>
                obtain ⟨rfl, HBZ⟩ := hcut
                go_wp2_with fail
                go_roundg (x1.length - (i + 1))
                case measure => have := HI.out; omega
                case rel => exact ⟨i + 1, by have := HI.out.1; omega, Nat.le_refl _, rfl, HBZ⟩
          · have e1 : decide ((i : Int) < (x1.length : Int)) = false := decide_eq_false (by omega)
            have e2 : decide (i < x1.length) = false := decide_eq_false hlt
            have e4 : decide ((D.length : Int) ≤ (x1.length : Int)) = true := decide_eq_true (by have := HDL.out; omega)
            have e5 : decide (D.length ≤ x1.length) = true := decide_eq_true HDL.out
            clear hgg hi hlt
            go_wp2_with fail
            go_ret
            exact ⟨rfl, HALL.out.trans (HBO.out.mono HALL.out.size)⟩
end Go.Proofs.YtojcbknclfamhaaDoor.A
