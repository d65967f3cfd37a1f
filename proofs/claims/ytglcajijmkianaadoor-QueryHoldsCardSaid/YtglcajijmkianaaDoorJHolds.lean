/- Which rows are selected, and that rows are the same as themselves; no program in sight. · QueryHolds' walk: which rows hold, and which are selected, is what the document says. · QueryHolds: for every query and all rows the law returns true, and what came in reads as it did; strconv's and math/bits' listed variables as the program's text lays them (tied). -/
import Derived.Test.YtglcajijmkianaaDoorAx0
import Derived.Test.YtglcajijmkianaaDoorAx7
import Derived.Test.YtglcajijmkianaaDoorAx8
import Derived.Test.YtglcajijmkianaaDoorJPure
import Derived.Test.YtglcajijmkianaaDoorHClone
import Derived.Test.YtglcajijmkianaaDoorAx6
import Derived.Test.YtglcajijmkianaaDoorJLives
import Derived.Test.YtglcajijmkianaaDoorHGlobs
import Derived.Test.YtglcajijmkianaaDoorJRd
import Derived.Test.YtglcajijmkianaaDoorCards
import Derived.ProofKit
import Derived.OpenShut
import Derived.Deep.DeepHandedRow
import Derived.Deep.DeepWitnessRowRef
import Derived.ShutString
namespace Go.Proofs.YtglcajijmkianaaDoor.A
open Go.RowKit Go.Proofs.YtglcajijmkianaaDoorW.PrintWords Go.Proofs.YtglcajijmkianaaDoorW.PrintLast Go.Proofs.YtglcajijmkianaaDoorW.PrintMore
open Go.ChangeShapes Go.WideShapes Go.ChangeAt
set_option linter.unusedVariables false
set_option linter.unusedSimpArgs false

theorem rdL8_at {xs : List (List S23)} {i : Nat} (h : i < xs.length) : rd_L8 xs (i : Int) = xs[i] := by simp [rd_L8, h]
theorem select_ev {n : Nat} {q : S28} (hq : Gd28 n q) (rows : List (List S23)) (hn : rows.length * 24 ≤ 140737488351232) (hr : ∀ y ∈ rows, y.length * 32 ≤ 140737488351232) : ∀ d i (out : List (List S23)), rows.length - i ≤ d → i ≤ rows.length → out.length ≤ i →
    Ev (fun k => query_Select.l0 k out rows (rows.length : Int) (i : Int) q.f0 q.f1.f0 q.f1.f1 q.f1.f2.f0 q.f1.f2.f1 q.f1.f2.f2 q.f2) (out ++ (rows.drop i).filter (fun l => hV n l q)) := by
  intro d
  induction d with
  | zero =>
    intro i out hd hi ho
    refine Ev.step (f := fun _ => some out) (fun k => by simp only [query_Select.l0]; rw [if_neg (by omega)]) ?_
    rw [List.drop_eq_nil_of_le (by omega), List.filter_nil, List.append_nil]
    exact Ev.now _
  | succ d ih =>
    intro i out hd hi ho
    by_cases h : i < rows.length
    · refine Ev.step (f := fun k => (holdsAt k rows[i] q).bind fun t => if t = true then query_Select.l0 k (out ++ [rows[i]]) rows (rows.length : Int) ((i + 1 : Nat) : Int) q.f0 q.f1.f0 q.f1.f1 q.f1.f2.f0 q.f1.f2.f1 q.f1.f2.f2 q.f2 else query_Select.l0 k out rows (rows.length : Int) ((i + 1 : Nat) : Int) q.f0 q.f1.f0 q.f1.f1 q.f1.f2.f0 q.f1.f2.f1 q.f1.f2.f2 q.f2) (fun k => by
        simp only [query_Select.l0]
        rw [if_pos (by omega), if_pos (by omega), if_pos (by omega), rdL8_at h, wrap_succ (n := rows.length) (by unfold maxLen; omega) h]
        have hc : api_Value.f rows[i] = some rows[i] := by
          unfold api_Value.f
          rw [if_pos (by have := hr _ (List.getElem_mem h); omega)]
        simp only [hc, Option.bind_some]
        rw [if_pos (by omega)]
        rfl) ?_
      refine Ev.bind (f := fun k t => if t = true then query_Select.l0 k (out ++ [rows[i]]) rows (rows.length : Int) ((i + 1 : Nat) : Int) q.f0 q.f1.f0 q.f1.f1 q.f1.f2.f0 q.f1.f2.f1 q.f1.f2.f2 q.f2 else query_Select.l0 k out rows (rows.length : Int) ((i + 1 : Nat) : Int) q.f0 q.f1.f0 q.f1.f1 q.f1.f2.f0 q.f1.f2.f1 q.f1.f2.f2 q.f2) (holds_ev n q hq) ?_
      rw [List.drop_eq_getElem_cons h, List.filter_cons]
      cases hV n rows[i] q
      · simp only [Bool.false_eq_true, if_false]
        exact ih (i + 1) out (by omega) (by omega) (by omega)
      · simp only [if_true]
        have := ih (i + 1) (out ++ [rows[i]]) (by omega) (by omega) (by simp; omega)
        simpa using this
    · refine Ev.step (f := fun _ => some out) (fun k => by simp only [query_Select.l0]; rw [if_neg (by omega)]) ?_
      rw [List.drop_eq_nil_of_le (by omega), List.filter_nil, List.append_nil]
      exact Ev.now _
theorem Select_ev {n : Nat} {q : S28} (hq : Gd28 n q) (rows : List (List S23)) (hn : rows.length * 24 ≤ 140737488351232) (hr : ∀ y ∈ rows, y.length * 32 ≤ 140737488351232) :
    Ev (fun k => query_Select.f k q.f0 q.f1.f0 q.f1.f1 q.f1.f2.f0 q.f1.f2.f1 q.f1.f2.f2 q.f2 rows) (rows.filter (fun l => hV n l q)) :=
  select_ev hq rows hn hr rows.length 0 [] (by omega) (by omega) (by simp)

theorem same_ev (l : List S23) (hl : l.length ≤ maxLen) : Ev (fun k => tithebarnref02_Same.f k l l) true := by
  have key : ∀ d i, l.length - i ≤ d → i ≤ l.length → Ev (fun k => tithebarnref02_Same.l0 k l l (i : Int)) true := by
    intro d
    induction d with
    | zero =>
      intro i hd hi
      exact Ev.step (f := fun _ => some true) (fun k => by simp only [tithebarnref02_Same.l0]; rw [if_neg (by omega)]) (Ev.now _)
    | succ d ih =>
      intro i hd hi
      by_cases h : i < l.length
      · exact Ev.step (f := fun k => tithebarnref02_Same.l0 k l l ((i + 1 : Nat) : Int)) (fun k => by
          simp only [tithebarnref02_Same.l0]
          rw [if_pos (by omega), if_pos (by omega), if_pos (by omega), wrap_succ hl h]; simp) (ih (i + 1) (by omega) (by omega))
      · exact Ev.step (f := fun _ => some true) (fun k => by simp only [tithebarnref02_Same.l0]; rw [if_neg (by omega)]) (Ev.now _)
  exact Ev.congr (f := fun k => tithebarnref02_Same.l0 k l l ((0 : Nat) : Int)) (fun k => by simp [tithebarnref02_Same.f]) (key l.length 0 (by omega) (by omega))
theorem SameRows_ev (ls : List (List S23)) (hn : ls.length ≤ maxLen) (hl : ∀ l ∈ ls, l.length ≤ maxLen) : Ev (fun k => tithebarnref02_SameRows.f k ls ls) true := by
  have key : ∀ d i, ls.length - i ≤ d → i ≤ ls.length → Ev (fun k => tithebarnref02_SameRows.l0 k ls ls (i : Int)) true := by
    intro d
    induction d with
    | zero =>
      intro i hd hi
      exact Ev.step (f := fun _ => some true) (fun k => by simp only [tithebarnref02_SameRows.l0]; rw [if_neg (by omega)]) (Ev.now _)
    | succ d ih =>
      intro i hd hi
      by_cases h : i < ls.length
      · refine Ev.step (f := fun k => (tithebarnref02_Same.f k ls[i] ls[i]).bind fun t => if t = true then tithebarnref02_SameRows.l0 k ls ls ((i + 1 : Nat) : Int) else some false) (fun k => by
          simp only [tithebarnref02_SameRows.l0]
          rw [if_pos (by omega), if_pos (by omega), if_pos (by omega), wrap_succ hn h, rdL8_at h]) ?_
        refine Ev.bind (f := fun k t => if t = true then tithebarnref02_SameRows.l0 k ls ls ((i + 1 : Nat) : Int) else some false) (same_ev ls[i] (hl _ (List.getElem_mem h))) ?_
        exact ih (i + 1) (by omega) (by omega)
      · exact Ev.step (f := fun _ => some true) (fun k => by simp only [tithebarnref02_SameRows.l0]; rw [if_neg (by omega)]) (Ev.now _)
  exact Ev.congr (f := fun k => tithebarnref02_SameRows.l0 k ls ls ((0 : Nat) : Int)) (fun k => by simp [tithebarnref02_SameRows.f]) (key ls.length 0 (by omega) (by omega))

/-- A list of rows that is a parameter; what its weights bound. -/
theorem rdRow {H : Type} {enc : TypeId × Value → H} {W : World} {n : Nat} : RdAt enc Tryd.prog W 43 (Kd.slice 23 k23) (AllQ Q23) n := rd_slice _ Tryd.underlying43 (by kernel_rfl) (fun m _ => rd23)
theorem weightsAll_mem {H : Type} {P : Program} {e : TypeId} : ∀ {ds : List (DataW H)} {d : DataW H} {x : Nat}, d ∈ ds → x ∈ d.weights P e → x ∈ DataW.weightsAll P e ds
  | d0 :: r, d, x, hd, hx => by
    rw [DataW.weightsAll]
    rcases List.mem_cons.1 hd with rfl | h
    · exact List.mem_append_left _ hx
    · exact List.mem_append_right _ (weightsAll_mem h hx)
set_option maxRecDepth 100000 in
theorem rows_small {H : Type} {ys : List (List S23)} {x : DataW H} (h : AllQ (AllQ Q23) ys x) (hw : ∀ m ∈ x.weights Tryd.prog 46, m ≤ 140737488351232) : ys.length * 24 ≤ 140737488351232 ∧ ∀ y ∈ ys, y.length * 32 ≤ 140737488351232 := by
  rcases h with ⟨rfl, rfl⟩ | ⟨ds, rest, rfl, hl, _, hq⟩
  · exact ⟨by simp, by simp⟩
  have hu := Tryd.underlying46
  have hu2 := Tryd.underlying43
  have hb : Tryd.prog.bytesOf 43 = 24 := by kernel_rfl
  have hb2 : Tryd.prog.bytesOf 23 = 32 := by kernel_rfl
  rw [DataW.weights, hu] at hw
  simp only [hb] at hw
  refine ⟨?_, fun y hy => ?_⟩
  · have := hw _ (List.mem_cons_self ..)
    omega
  · obtain ⟨i, hi, rfl⟩ := List.getElem_of_mem hy
    have hi2 : i < ds.length := by omega
    have hz := hq i _ _ (List.getElem?_eq_getElem hi) (List.getElem?_eq_getElem hi2)
    rcases hz with ⟨e, _⟩ | ⟨ds2, rest2, e2, hl2, _, _⟩
    · rw [e]; simp
    · have hm : (ds2.length + rest2.length) * 32 ∈ (ds[i]).weights Tryd.prog 43 := by
        rw [e2, DataW.weights, hu2]
        simp only [hb2]
        exact List.mem_cons_self ..
      have := hw _ (List.mem_cons_of_mem _ (List.mem_append_left _ (weightsAll_mem (List.getElem_mem hi2) hm)))
      omega
end Go.Proofs.YtglcajijmkianaaDoor.A
namespace Go.Proofs.YtglcajijmkianaaDoor.A
open Go.RowKit Go.Proofs.YtglcajijmkianaaDoorW.PrintWords Go.Proofs.YtglcajijmkianaaDoorW.PrintLast Go.Proofs.YtglcajijmkianaaDoorW.PrintMore
set_option linter.unusedVariables false
set_option linter.unusedSimpArgs false

/-- The rows that are wanted so far, whose cells lie in the first world. -/
def WantIs (w wr : World) (base : Nat) (v : Value) (ls : List (List S23)) : Prop := ∃ vs, wr.ownsRow base 43 1 v ls.length vs ∧ Reps ((Kd.slice 23 k23).K w) 1 ls vs
theorem WantIs.below {w wr w' : World} {base : Nat} {v : Value} {ls : List (List S23)} (h : WantIs w wr base v ls) (hb : Below wr.heap.size wr w') : WantIs w w' base v ls := by
  obtain ⟨vs, ho, hr⟩ := h
  exact ⟨vs, pw_own_below ho hb, hr⟩
theorem WantIs.drew {w wr : World} {base : Nat} {v : Value} {ls : List (List S23)} (h : WantIs w wr base v ls) : WantIs w wr.drew base v ls := h.below (below_drew (Below.refl _ _))
theorem WantIs.nil (w wr : World) (base : Nat) : WantIs w wr base (.slice none 0 0) [] := ⟨[], own_nil _ _ _ _, rfl, fun j p hj => by simp at hj⟩
theorem WantIs.snoc {w w1 : World} {base : Nat} {v1 : Value} {ls : List (List S23)} {vs : List Value} {l : List S23} {u : Value} (ho : w1.ownsRow base 43 1 v1 (ls.length + 1) (vs ++ [u])) (hr : Reps ((Kd.slice 23 k23).K w) 1 ls vs) (hu : (Kd.slice 23 k23).K w l [u]) : WantIs w w1 base v1 (ls ++ [l]) :=
  ⟨vs ++ [u], by simpa using ho, Kd.reps_append hr ⟨rfl, fun j p hj => by
    cases j with
    | zero => obtain rfl : l = p := by simpa using hj
              exact hu
    | succ j => simp at hj⟩⟩
theorem WantIs.reads {w wr : World} {base : Nat} {v : Value} {ls : List (List S23)} (h : WantIs w wr base v ls) (hb : Below w.heap.size w wr) : ∃ A c, v = .slice A ls.length c ∧ ls.length ≤ c ∧ Kd.C (Kd.slice 23 k23) wr A ls.length ls := by
  obtain ⟨vs, ho, hr⟩ := h
  obtain ⟨A, c, e, hR⟩ := own_reads_row ho hr rfl
  refine ⟨A, c, e, ?_, hR.imp_ (Below.refl _ _) (fun x cs hk => (Kd.slice 23 k23).K_below hb hk)⟩
  rcases ho.2 with ⟨e1, e2⟩ | ⟨g, cap, cur, e1, _, _, hcap, _⟩
  · omega
  · rw [e] at e1; cases e1; exact hcap
theorem filter_take_snoc {l1 : List (List S23)} {k : Nat} (h : k < l1.length) (p : List S23 → Bool) : (l1.take (k + 1)).filter p = (l1.take k).filter p ++ if p l1[k] = true then [l1[k]] else [] := by
  rw [List.take_succ_eq_append_getElem h, List.filter_append]
  by_cases hp : p l1[k] = true <;> simp [hp]

set_option maxRecDepth 100000 in
set_option maxHeartbeats 16000000 in
theorem QueryHolds.walk (q : S28) (l1 : List (List S23)) (n : Nat) (hq : Gd28 n q) (hgl : ∀ l ∈ l1, ∀ v ∈ l, Gd23 v) (hn : l1.length * 24 ≤ 140737488351232) (hr32 : ∀ y ∈ l1, y.length * 32 ≤ 140737488351232) (A A1 : Option Addr) (c c1 : Nat) (w : World) (hG : Globs w) (hC : Kd.C k28 w A q.f2.length q.f2) (hc : q.f2.length ≤ c) (hC1 : Kd.C (Kd.slice 23 k23) w A1 l1.length l1) (hc1 : l1.length ≤ c1) :
    Calls Tryd.prog 7 #[.agg #[.int .i64 q.f0, .int .i64 q.f1.f0, .int .i64 q.f1.f1, .bool q.f1.f2.f0, .int .i64 q.f1.f2.f1, .string q.f1.f2.f2, .slice A q.f2.length c], .slice A1 l1.length c1] w fun e w' => e = .returned (.bool true) ∧ Below w.heap.size w w' := by
  have HHs := Aside0.mk (fun (W : World) (hW : Below w.heap.size w W) (l : List S23) (hl : l ∈ l1) (Ai : Option Addr) (ci : Nat) (hCi : Kd.C k23 w Ai l.length l) (hci : l.length ≤ ci) => show Calls Tryd.prog 17 #[.agg #[.int .i64 q.f0, .int .i64 q.f1.f0, .int .i64 q.f1.f1, .bool q.f1.f2.f0, .int .i64 q.f1.f2.f1, .string q.f1.f2.f2, .slice A q.f2.length c], .slice Ai l.length ci] W (fun e w' => e = .returned (.bool (hV n l q)) ∧ Below W.heap.size W w') from by
    obtain ⟨K, hK⟩ := holds_ev (l := l) n q hq
    exact query_Holds.calls K _ _ _ _ _ _ A c q.f2 Ai ci l _ W (Kd.C_below hC hW) hc (Kd.C_below hCi hW) hci (hK K (Nat.le_refl _)))
  have HRs := Aside0.mk (fun (W : World) (hW : Below w.heap.size w W) (l : List S23) (hl : l ∈ l1) (Ai : Option Addr) (ci : Nat) (hCi : Kd.C k23 w Ai l.length l) (hci : l.length ≤ ci) => show Calls Tryd.prog 18 #[.agg #[.int .i64 q.f0, .int .i64 q.f1.f0, .int .i64 q.f1.f1, .bool q.f1.f2.f0, .int .i64 q.f1.f2.f1, .string q.f1.f2.f2, .slice A q.f2.length c], .slice Ai l.length ci] W (fun e w' => e = .returned (.bool (hV n l q)) ∧ Below W.heap.size W w') from by
    obtain ⟨K, hK⟩ := ref_ev (l := l) (hgl l hl) n q hq
    exact tithebarnref23_Holds.calls K _ _ _ _ _ _ A c q.f2 Ai ci l _ W (Kd.C_below hC hW) hc (Kd.C_below hCi hW) hci (hK K (Nat.le_refl _)))
  have HSel := Aside0.mk (fun (W : World) (hW : Below w.heap.size w W) => show Calls Tryd.prog 20 #[.agg #[.int .i64 q.f0, .int .i64 q.f1.f0, .int .i64 q.f1.f1, .bool q.f1.f2.f0, .int .i64 q.f1.f2.f1, .string q.f1.f2.f2, .slice A q.f2.length c], .slice A1 l1.length c1] W (fun e w' => ∃ v0_ : Value, e = .returned v0_ ∧ Kd.S (Kd.slice 23 k23) 43 w' W.heap.size (fun _ => True) v0_ (l1.filter (fun l => hV n l q)) ∧ Below W.heap.size W w') from by
    obtain ⟨K, hK⟩ := Select_ev hq l1 hn hr32
    exact query_Select.calls K _ _ _ _ _ _ A c q.f2 A1 c1 l1 _ W (Kd.C_below hC hW) hc (Kd.C_below hC1 hW) hc1 (hK K (Nat.le_refl _)))
  have HSame := Aside0.mk (fun (W : World) (ls : List (List S23)) (B B' : Option Addr) (d d' : Nat) (hls : ls = l1.filter (fun l => hV n l q)) (hB : Kd.C (Kd.slice 23 k23) W B ls.length ls) (hd : ls.length ≤ d) (hB' : Kd.C (Kd.slice 23 k23) W B' ls.length ls) (hd' : ls.length ≤ d') => show Calls Tryd.prog 19 #[.slice B ls.length d, .slice B' ls.length d'] W (fun e w' => e = .returned (.bool true) ∧ Drawn0 W w') from by
    obtain ⟨K, hK⟩ := SameRows_ev ls (by have := List.length_filter_le (fun l => hV n l q) l1; rw [hls]; unfold maxLen; omega) (fun l hl => by rw [hls] at hl; have := hr32 l ((List.mem_filter.1 hl).1); unfold maxLen; omega)
    exact tithebarnref02_SameRows.calls K B d ls B' d' ls true W hB hd hB' hd' (hK K (Nat.le_refl _)))
  have HL := Aside0.mk (fun (W : World) (hW : Below w.heap.size w W) => lives.calls W (hG.below hW))
  have HROW := Aside0.mk hC1
  have HN := Aside0.mk hn
  have hu28 := Tryd.underlying28
  have hu46 := Tryd.underlying46
  have hmax : l1.length ≤ 5864062014634 := by omega
  clear hC hC1 hG hq hgl hr32 hn
  go_enter Tryd.func7, Tryd.ntmps7
  go_wp2_with fail
  refine (HL.out _ (below_alloc (Below.refl _ _) _)).mono ?_
  rintro e w1 ⟨rfl, hb1⟩
  have HS0 := Aside0.mk (show (w.alloc (Obj.cells #[.int .i64 q.f0, .int .i64 q.f1.f0, .int .i64 q.f1.f1, .bool q.f1.f2.f0, .int .i64 q.f1.f2.f1, .string q.f1.f2.f2, .slice A q.f2.length c] 28)).heap.size = w.heap.size + 1 from by simp)
  have HB0 := Aside0.mk (below_alloc (Below.refl w.heap.size w) (Obj.cells #[.int .i64 q.f0, .int .i64 q.f1.f0, .int .i64 q.f1.f1, .bool q.f1.f2.f0, .int .i64 q.f1.f2.f1, .string q.f1.f2.f2, .slice A q.f2.length c] 28))
  have HK0 := Aside0.mk (blk_new w (Obj.cells #[.int .i64 q.f0, .int .i64 q.f1.f0, .int .i64 q.f1.f1, .bool q.f1.f2.f0, .int .i64 q.f1.f2.f1, .string q.f1.f2.f2, .slice A q.f2.length c] 28))
  generalize w.alloc _ = W0 at hb1 HS0 HB0 HK0
  have HD := Aside0.mk (show Below (w.heap.size + 1) W0 w1 from by rw [← HS0.out]; exact hb1)
  clear hb1 HL
  go_wp2_with fail
  go_loopw [5, 6] (fun v5 v6 wr => ∃ k : Nat, k ≤ l1.length ∧ v6 = .int .i64 k ∧ Aside0 (WantIs w wr (w.heap.size + 1) v5 ((l1.take k).filter (fun l => hV n l q))) ∧ Aside0 (Below (w.heap.size + 1) W0 wr)) (fun _ v6 _ => l1.length - (intOf v6).toNat)
  case atStart => exact ⟨0, Nat.zero_le _, rfl, ⟨WantIs.nil _ _ _⟩, HD⟩
  case round =>
    clear HD
    obtain ⟨k, hk, rfl, HWr, HDr⟩ := hrel
    have HBr := Aside0.mk (HB0.out.trans (HDr.out.mono (by omega)))
    have Kr := Aside0.mk ((HDr.out.block w.heap.size (by omega)).trans HK0.out)
    by_cases hlt : k < l1.length
    · obtain ⟨ad, Ai, ci, e1, hcell, hci, hCi⟩ := at_L8 HROW.out (k : Int) (by omega) (by omega)
      cases e1
      simp only [Int.toNat_natCast, rdL8_at hlt] at hcell hci hCi
      have HSN := Aside0.mk (filter_take_snoc hlt (fun l => hV n l q))
      have HKi := Aside0.mk (show (Kd.slice 23 k23).K w l1[k] [.slice Ai l1[k].length ci] from ⟨Ai, ci, rfl, hci, hCi⟩)
      have HH := Aside0.mk (fun W hW => HHs.out W hW l1[k] (List.getElem_mem hlt) Ai ci hCi hci)
      have HRF := Aside0.mk (fun W hW => HRs.out W hW l1[k] (List.getElem_mem hlt) Ai ci hCi hci)
      have rr := pw_cell_below HBr.out hcell
      clear hcell hCi hci HROW HSel HSame HHs HRs
      generalize hb : hV n l1[k] q = b at HH HRF HSN
      generalize l1[k] = li at HH HRF HSN HKi rr
      have hd : decide ((k : Int) < (l1.length : Int)) = true := decide_eq_true (by omega)
      clear hb
      have z0 : wr.cell? ⟨w.heap.size, 0, none⟩ = some (.int .i64 q.f0) := (blk_cell Kr.out 0).trans rfl
      have z1 : wr.cell? ⟨w.heap.size, 1, none⟩ = some (.int .i64 q.f1.f0) := (blk_cell Kr.out 1).trans rfl
      have z2 : wr.cell? ⟨w.heap.size, 2, none⟩ = some (.int .i64 q.f1.f1) := (blk_cell Kr.out 2).trans rfl
      have z3 : wr.cell? ⟨w.heap.size, 3, none⟩ = some (.bool q.f1.f2.f0) := (blk_cell Kr.out 3).trans rfl
      have z4 : wr.cell? ⟨w.heap.size, 4, none⟩ = some (.int .i64 q.f1.f2.f1) := (blk_cell Kr.out 4).trans rfl
      have z5 : wr.cell? ⟨w.heap.size, 5, none⟩ = some (.string q.f1.f2.f2) := (blk_cell Kr.out 5).trans rfl
      have z6 : wr.cell? ⟨w.heap.size, 6, none⟩ = some (.slice A q.f2.length c) := (blk_cell Kr.out 6).trans rfl
      cases b with
      | false =>
        go_wp2_with fail
        go_region_held3 (fun w' => w'.cell? ⟨w.heap.size, 0, none⟩ = some (.int .i64 q.f0) ∧ w'.cell? ⟨w.heap.size, 1, none⟩ = some (.int .i64 q.f1.f0) ∧ w'.cell? ⟨w.heap.size, 2, none⟩ = some (.int .i64 q.f1.f1) ∧ w'.cell? ⟨w.heap.size, 3, none⟩ = some (.bool q.f1.f2.f0) ∧ w'.cell? ⟨w.heap.size, 4, none⟩ = some (.int .i64 q.f1.f2.f1) ∧ w'.cell? ⟨w.heap.size, 5, none⟩ = some (.string q.f1.f2.f2) ∧ w'.cell? ⟨w.heap.size, 6, none⟩ = some (.slice A q.f2.length c) ∧ w'.cell? (ad.add k) = some (.slice Ai li.length ci)) ((repeat' apply And.intro) <;> (first | assumption | exact pw_cell_below hb' (by assumption) | go_keep))
          (first
            | (go_at_call 18; refine (HRF.out _ HB1.out).mono ?_; rintro e w2 ⟨rfl, hb'⟩; (have HB2 := Aside0.mk ((HB1.out).trans (hb'.mono (HB1.out).size))); (have K2 := Aside0.mk ((hb'.block w.heap.size (blk_lt K1.out)).trans K1.out)); (have HD2 := Aside0.mk ((HD1.out).trans (hb'.mono (Nat.succ_le_of_lt (blk_lt K1.out))))); (have HW2 := Aside0.mk (HW1.out.below hb')); (have r2 := pw_cell_below hb' r1); (have c0 : w2.cell? ⟨w.heap.size, 0, none⟩ = some (.int .i64 q.f0) := (blk_cell K2.out 0).trans rfl); (have c1 : w2.cell? ⟨w.heap.size, 1, none⟩ = some (.int .i64 q.f1.f0) := (blk_cell K2.out 1).trans rfl); (have c2 : w2.cell? ⟨w.heap.size, 2, none⟩ = some (.int .i64 q.f1.f1) := (blk_cell K2.out 2).trans rfl); (have c3 : w2.cell? ⟨w.heap.size, 3, none⟩ = some (.bool q.f1.f2.f0) := (blk_cell K2.out 3).trans rfl); (have c4 : w2.cell? ⟨w.heap.size, 4, none⟩ = some (.int .i64 q.f1.f2.f1) := (blk_cell K2.out 4).trans rfl); (have c5 : w2.cell? ⟨w.heap.size, 5, none⟩ = some (.string q.f1.f2.f2) := (blk_cell K2.out 5).trans rfl); (have c6 : w2.cell? ⟨w.heap.size, 6, none⟩ = some (.slice A q.f2.length c) := (blk_cell K2.out 6).trans rfl))
            | (go_at_call 17; refine (HH.out _ (below_drew HBr.out)).mono ?_; rintro e w1 ⟨rfl, hb'⟩; (have HB1 := Aside0.mk (((below_drew HBr.out)).trans (hb'.mono ((below_drew HBr.out)).size))); (have K1 := Aside0.mk ((hb'.block w.heap.size (blk_lt Kr.out)).trans Kr.out)); (have HD1 := Aside0.mk (((HDr.out.drew)).trans (hb'.mono (Nat.succ_le_of_lt (blk_lt Kr.out))))); (have HW1 := Aside0.mk ((HWr.out.drew).below hb')); (have r1 := pw_cell_below hb' rr); (have b0 : w1.cell? ⟨w.heap.size, 0, none⟩ = some (.int .i64 q.f0) := (blk_cell K1.out 0).trans rfl); (have b1 : w1.cell? ⟨w.heap.size, 1, none⟩ = some (.int .i64 q.f1.f0) := (blk_cell K1.out 1).trans rfl); (have b2 : w1.cell? ⟨w.heap.size, 2, none⟩ = some (.int .i64 q.f1.f1) := (blk_cell K1.out 2).trans rfl); (have b3 : w1.cell? ⟨w.heap.size, 3, none⟩ = some (.bool q.f1.f2.f0) := (blk_cell K1.out 3).trans rfl); (have b4 : w1.cell? ⟨w.heap.size, 4, none⟩ = some (.int .i64 q.f1.f2.f1) := (blk_cell K1.out 4).trans rfl); (have b5 : w1.cell? ⟨w.heap.size, 5, none⟩ = some (.string q.f1.f2.f2) := (blk_cell K1.out 5).trans rfl); (have b6 : w1.cell? ⟨w.heap.size, 6, none⟩ = some (.slice A q.f2.length c) := (blk_cell K1.out 6).trans rfl)))
        go_wp2_with fail
        go_region_held3 (fun w' => w'.cell? ⟨w.heap.size, 0, none⟩ = some (.int .i64 q.f0) ∧ w'.cell? ⟨w.heap.size, 1, none⟩ = some (.int .i64 q.f1.f0) ∧ w'.cell? ⟨w.heap.size, 2, none⟩ = some (.int .i64 q.f1.f1) ∧ w'.cell? ⟨w.heap.size, 3, none⟩ = some (.bool q.f1.f2.f0) ∧ w'.cell? ⟨w.heap.size, 4, none⟩ = some (.int .i64 q.f1.f2.f1) ∧ w'.cell? ⟨w.heap.size, 5, none⟩ = some (.string q.f1.f2.f2) ∧ w'.cell? ⟨w.heap.size, 6, none⟩ = some (.slice A q.f2.length c) ∧ w'.cell? (ad.add k) = some (.slice Ai li.length ci)) ((repeat' apply And.intro) <;> (first | assumption | exact pw_cell_below hb' (by assumption) | go_keep))
          (first
            | (go_at_call 18; refine (HRF.out _ (below_drew HB2.out)).mono ?_; rintro e w3 ⟨rfl, hb'⟩; (have HB3 := Aside0.mk (((below_drew HB2.out)).trans (hb'.mono ((below_drew HB2.out)).size))); (have K3 := Aside0.mk ((hb'.block w.heap.size (blk_lt K2.out)).trans K2.out)); (have HD3 := Aside0.mk (((HD2.out.drew)).trans (hb'.mono (Nat.succ_le_of_lt (blk_lt K2.out))))); (have HW3 := Aside0.mk ((HW2.out.drew).below hb')); (have r3 := pw_cell_below hb' r2); (have d0 : w3.cell? ⟨w.heap.size, 0, none⟩ = some (.int .i64 q.f0) := (blk_cell K3.out 0).trans rfl); (have d1 : w3.cell? ⟨w.heap.size, 1, none⟩ = some (.int .i64 q.f1.f0) := (blk_cell K3.out 1).trans rfl); (have d2 : w3.cell? ⟨w.heap.size, 2, none⟩ = some (.int .i64 q.f1.f1) := (blk_cell K3.out 2).trans rfl); (have d3 : w3.cell? ⟨w.heap.size, 3, none⟩ = some (.bool q.f1.f2.f0) := (blk_cell K3.out 3).trans rfl); (have d4 : w3.cell? ⟨w.heap.size, 4, none⟩ = some (.int .i64 q.f1.f2.f1) := (blk_cell K3.out 4).trans rfl); (have d5 : w3.cell? ⟨w.heap.size, 5, none⟩ = some (.string q.f1.f2.f2) := (blk_cell K3.out 5).trans rfl); (have d6 : w3.cell? ⟨w.heap.size, 6, none⟩ = some (.slice A q.f2.length c) := (blk_cell K3.out 6).trans rfl)))
        go_wp2_with fail
        go_roundw
        case rel => exact ⟨k + 1, by omega, by go_num, ⟨by rw [HSN.out]; simpa using HW3.out⟩, HD3⟩
        case measure => simp [intOf]; omega
      | true =>
        go_wp2_with fail
        go_region_held3 (fun w' => w'.cell? ⟨w.heap.size, 0, none⟩ = some (.int .i64 q.f0) ∧ w'.cell? ⟨w.heap.size, 1, none⟩ = some (.int .i64 q.f1.f0) ∧ w'.cell? ⟨w.heap.size, 2, none⟩ = some (.int .i64 q.f1.f1) ∧ w'.cell? ⟨w.heap.size, 3, none⟩ = some (.bool q.f1.f2.f0) ∧ w'.cell? ⟨w.heap.size, 4, none⟩ = some (.int .i64 q.f1.f2.f1) ∧ w'.cell? ⟨w.heap.size, 5, none⟩ = some (.string q.f1.f2.f2) ∧ w'.cell? ⟨w.heap.size, 6, none⟩ = some (.slice A q.f2.length c) ∧ w'.cell? (ad.add k) = some (.slice Ai li.length ci)) ((repeat' apply And.intro) <;> (first | assumption | exact pw_cell_below hb' (by assumption) | go_keep))
          (first
            | (go_at_call 18; refine (HRF.out _ HB1.out).mono ?_; rintro e w2 ⟨rfl, hb'⟩; (have HB2 := Aside0.mk ((HB1.out).trans (hb'.mono (HB1.out).size))); (have K2 := Aside0.mk ((hb'.block w.heap.size (blk_lt K1.out)).trans K1.out)); (have HD2 := Aside0.mk ((HD1.out).trans (hb'.mono (Nat.succ_le_of_lt (blk_lt K1.out))))); (have HW2 := Aside0.mk (HW1.out.below hb')); (have r2 := pw_cell_below hb' r1); (have c0 : w2.cell? ⟨w.heap.size, 0, none⟩ = some (.int .i64 q.f0) := (blk_cell K2.out 0).trans rfl); (have c1 : w2.cell? ⟨w.heap.size, 1, none⟩ = some (.int .i64 q.f1.f0) := (blk_cell K2.out 1).trans rfl); (have c2 : w2.cell? ⟨w.heap.size, 2, none⟩ = some (.int .i64 q.f1.f1) := (blk_cell K2.out 2).trans rfl); (have c3 : w2.cell? ⟨w.heap.size, 3, none⟩ = some (.bool q.f1.f2.f0) := (blk_cell K2.out 3).trans rfl); (have c4 : w2.cell? ⟨w.heap.size, 4, none⟩ = some (.int .i64 q.f1.f2.f1) := (blk_cell K2.out 4).trans rfl); (have c5 : w2.cell? ⟨w.heap.size, 5, none⟩ = some (.string q.f1.f2.f2) := (blk_cell K2.out 5).trans rfl); (have c6 : w2.cell? ⟨w.heap.size, 6, none⟩ = some (.slice A q.f2.length c) := (blk_cell K2.out 6).trans rfl))
            | (go_at_call 17; refine (HH.out _ (below_drew HBr.out)).mono ?_; rintro e w1 ⟨rfl, hb'⟩; (have HB1 := Aside0.mk (((below_drew HBr.out)).trans (hb'.mono ((below_drew HBr.out)).size))); (have K1 := Aside0.mk ((hb'.block w.heap.size (blk_lt Kr.out)).trans Kr.out)); (have HD1 := Aside0.mk (((HDr.out.drew)).trans (hb'.mono (Nat.succ_le_of_lt (blk_lt Kr.out))))); (have HW1 := Aside0.mk ((HWr.out.drew).below hb')); (have r1 := pw_cell_below hb' rr); (have b0 : w1.cell? ⟨w.heap.size, 0, none⟩ = some (.int .i64 q.f0) := (blk_cell K1.out 0).trans rfl); (have b1 : w1.cell? ⟨w.heap.size, 1, none⟩ = some (.int .i64 q.f1.f0) := (blk_cell K1.out 1).trans rfl); (have b2 : w1.cell? ⟨w.heap.size, 2, none⟩ = some (.int .i64 q.f1.f1) := (blk_cell K1.out 2).trans rfl); (have b3 : w1.cell? ⟨w.heap.size, 3, none⟩ = some (.bool q.f1.f2.f0) := (blk_cell K1.out 3).trans rfl); (have b4 : w1.cell? ⟨w.heap.size, 4, none⟩ = some (.int .i64 q.f1.f2.f1) := (blk_cell K1.out 4).trans rfl); (have b5 : w1.cell? ⟨w.heap.size, 5, none⟩ = some (.string q.f1.f2.f2) := (blk_cell K1.out 5).trans rfl); (have b6 : w1.cell? ⟨w.heap.size, 6, none⟩ = some (.slice A q.f2.length c) := (blk_cell K1.out 6).trans rfl)))
        go_wp2_with fail
        go_region_held3 (fun w' => w'.cell? ⟨w.heap.size, 0, none⟩ = some (.int .i64 q.f0) ∧ w'.cell? ⟨w.heap.size, 1, none⟩ = some (.int .i64 q.f1.f0) ∧ w'.cell? ⟨w.heap.size, 2, none⟩ = some (.int .i64 q.f1.f1) ∧ w'.cell? ⟨w.heap.size, 3, none⟩ = some (.bool q.f1.f2.f0) ∧ w'.cell? ⟨w.heap.size, 4, none⟩ = some (.int .i64 q.f1.f2.f1) ∧ w'.cell? ⟨w.heap.size, 5, none⟩ = some (.string q.f1.f2.f2) ∧ w'.cell? ⟨w.heap.size, 6, none⟩ = some (.slice A q.f2.length c) ∧ w'.cell? (ad.add k) = some (.slice Ai li.length ci)) ((repeat' apply And.intro) <;> (first | assumption | exact pw_cell_below hb' (by assumption) | go_keep))
          (first
            | (go_at_call 18; refine (HRF.out _ (below_drew HB2.out)).mono ?_; rintro e w3 ⟨rfl, hb'⟩; (have HB3 := Aside0.mk (((below_drew HB2.out)).trans (hb'.mono ((below_drew HB2.out)).size))); (have K3 := Aside0.mk ((hb'.block w.heap.size (blk_lt K2.out)).trans K2.out)); (have HD3 := Aside0.mk (((HD2.out.drew)).trans (hb'.mono (Nat.succ_le_of_lt (blk_lt K2.out))))); (have HW3 := Aside0.mk ((HW2.out.drew).below hb')); (have r3 := pw_cell_below hb' r2); (have d0 : w3.cell? ⟨w.heap.size, 0, none⟩ = some (.int .i64 q.f0) := (blk_cell K3.out 0).trans rfl); (have d1 : w3.cell? ⟨w.heap.size, 1, none⟩ = some (.int .i64 q.f1.f0) := (blk_cell K3.out 1).trans rfl); (have d2 : w3.cell? ⟨w.heap.size, 2, none⟩ = some (.int .i64 q.f1.f1) := (blk_cell K3.out 2).trans rfl); (have d3 : w3.cell? ⟨w.heap.size, 3, none⟩ = some (.bool q.f1.f2.f0) := (blk_cell K3.out 3).trans rfl); (have d4 : w3.cell? ⟨w.heap.size, 4, none⟩ = some (.int .i64 q.f1.f2.f1) := (blk_cell K3.out 4).trans rfl); (have d5 : w3.cell? ⟨w.heap.size, 5, none⟩ = some (.string q.f1.f2.f2) := (blk_cell K3.out 5).trans rfl); (have d6 : w3.cell? ⟨w.heap.size, 6, none⟩ = some (.slice A q.f2.length c) := (blk_cell K3.out 6).trans rfl)))
        have VS := Aside0.mk HW3.out
        have HSZ := Aside0.mk (show w.heap.size + 1 ≤ w3.heap.size from by have := blk_lt K3.out; omega)
        have HLEN := Aside0.mk (show (((l1.take k).filter (fun l => hV n l q)).length + 1) * 24 ≤ 140737488355328 from by have := List.length_filter_le (fun l => hV n l q) (l1.take k); have := List.length_take_le k l1; omega)
        go_wp2_with (at_builtin; refine print_append_cells (w0 := W0) (w.heap.size + 1) rfl (.tmp 34) (.tmp 39) 46 43 (.slice none 0 0) 1 24 rfl hu46 info43 rfl (by decide) (by decide) _ _ VS.out.choose [.slice Ai li.length ci] rfl rfl rfl (by simp [Value.oneCell']) VS.out.choose_spec.1 HD3.out HSZ.out HLEN.out ?_; intro v1 w4 hown hB4 hg4 _)
        go_roundw
        case rel => exact ⟨k + 1, by omega, by go_num, ⟨by rw [HSN.out]; simpa using WantIs.snoc hown VS.out.choose_spec.2 HKi.out⟩, ⟨hB4⟩⟩
        case measure => simp [intOf]; omega
    · have hke : k = l1.length := by omega
      subst hke
      have hd : decide ((l1.length : Int) < (l1.length : Int)) = false := decide_eq_false (by omega)
      have hd2 : decide (l1.length < l1.length) = false := decide_eq_false (by omega)
      rw [List.take_length] at HWr
      generalize hls : l1.filter (fun l => hV n l q) = ls at HWr HSel HSame
      obtain ⟨B, dB, rfl, hdB, hCB⟩ := WantIs.reads HWr.out HBr.out
      have HCB := Aside0.mk hCB
      clear hCB
      have z0 : wr.cell? ⟨w.heap.size, 0, none⟩ = some (.int .i64 q.f0) := (blk_cell Kr.out 0).trans rfl
      have z1 : wr.cell? ⟨w.heap.size, 1, none⟩ = some (.int .i64 q.f1.f0) := (blk_cell Kr.out 1).trans rfl
      have z2 : wr.cell? ⟨w.heap.size, 2, none⟩ = some (.int .i64 q.f1.f1) := (blk_cell Kr.out 2).trans rfl
      have z3 : wr.cell? ⟨w.heap.size, 3, none⟩ = some (.bool q.f1.f2.f0) := (blk_cell Kr.out 3).trans rfl
      have z4 : wr.cell? ⟨w.heap.size, 4, none⟩ = some (.int .i64 q.f1.f2.f1) := (blk_cell Kr.out 4).trans rfl
      have z5 : wr.cell? ⟨w.heap.size, 5, none⟩ = some (.string q.f1.f2.f2) := (blk_cell Kr.out 5).trans rfl
      have z6 : wr.cell? ⟨w.heap.size, 6, none⟩ = some (.slice A q.f2.length c) := (blk_cell Kr.out 6).trans rfl
      go_wp2_with fail
      refine (HSel.out _ HBr.out).mono ?_
      rintro e w2 ⟨v0, rfl, hS, hb2⟩
      obtain ⟨B2, d2, rfl, hd2', hC2⟩ := Kd.S_reads hS
      have HC2 := Aside0.mk hC2
      have HCB2 := Aside0.mk (Kd.C_below HCB.out hb2)
      have HB2 := Aside0.mk (HBr.out.trans (hb2.mono HBr.out.size))
      clear hS hC2 hb2 HSel
      go_wp2_with fail
      refine (HSame.out _ ls B2 B d2 dB rfl HC2.out hd2' HCB2.out hdB).mono ?_
      rintro e w3 ⟨rfl, hb3⟩
      go_wp2_with fail
      go_ret
      exact ⟨rfl, HB2.out.trans ((hb3.below).mono HB2.out.size)⟩
end Go.Proofs.YtglcajijmkianaaDoor.A
namespace Go.Proofs.YtglcajijmkianaaDoor.queryHolds
open Go.ChangeShapes Go.WideShapes Go.ChangeAt Go.RowKit Go.Proofs.YtglcajijmkianaaDoor.A
open Go.ChangeMaps (open_string shut_string)
set_option linter.unusedVariables false
set_option linter.unusedSimpArgs false

theorem own : ownKnob Tryd.prog.godebug = none := by kernel_rfl
theorem laidOut : laidOutB Tryd.prog = true := by kernel_rfl

set_option maxRecDepth 100000 in
theorem contract (H : Type) (enc : TypeId × Value → H) (W : World) (base : Nat) (args : Array Value) (ds gs : List (DataW H)) (before : List MemPlace)
    (hval : ∀ (j : Nat) t v, Tryd.f7.params[j]? = some t → args[j]? = some v → Value.okWide Tryd.prog W .any base t v)
    (hW : DataW.Whole enc Tryd.prog Tryd.f7.params.toList Rows.queryHoldsSpec.vars false W args.toList ds gs before) (hL : laidMetH Tryd.prog laid5 W) (hsz : (DataW.weightsEach Tryd.prog (Tryd.f7.params.toList ++ (OpenSpec.ofChange Rows.queryHoldsSpec).bare.plain.varTypes Tryd.prog) (ds ++ gs)).all (· ≤ reachBytes) = true) :
    Calls Tryd.prog 7 args W fun e W' => ∃ v, e = .returned v ∧ Rows.queryHoldsSpec.post enc Tryd.prog Tryd.f7 false true false false W args v W' := by
  have hW' := hW
  obtain ⟨p, q, hA0, hV, rfl, hfz, hnd⟩ := hW
  have hA : DataW.TrodAll enc Tryd.prog W 0 (fun _ => true) true Tryd.f7.params.toList args.toList ds p := hA0
  rw [Tryd.params7] at hA hval hsz
  obtain ⟨v0, vs0, d0, ds0, p0, q0, hargs, rfl, rfl, h0, r0⟩ := trodAll_cons hA
  obtain ⟨v1, vs1, d1, ds1, p1, q1, rfl, rfl, rfl, h1, r1⟩ := trodAll_cons r0
  obtain ⟨rfl, rfl, rfl⟩ := trodAll_nil r1
  obtain rfl : args = #[v0, v1] := by cases args; simp_all
  obtain ⟨rfl, rfl⟩ := trodVars_none hV
  clear hA0
  have k0 := h0
  have lt0 : ∀ x ∈ p0, x.block < W.heap.size := by obtain ⟨m, hm⟩ := k0; exact DataW.trod_lt m _ _ _ hm
  obtain ⟨y0, A0, c0, n0, rfl, hl0, hC0, hq0, g0⟩ := arg28 (hval 0 28 v0 rfl rfl) h0
  have k1 := h1
  have lt1 : ∀ x ∈ p1, x.block < W.heap.size := by obtain ⟨m, hm⟩ := k1; exact DataW.trod_lt m _ _ _ hm
  obtain ⟨A1, c1, y1, rfl, hl1, hC1, hq1⟩ := arg_slice Tryd.underlying46 (by kernel_rfl) (fun m => rdRow) (hval 1 46 v1 rfl rfl) h1
  have hG := Globs.laid hL
  have hgz : ∀ l ∈ y1, ∀ v ∈ l, Gd23 v := fun l hl v hv => by
    obtain ⟨x, hx⟩ := hq1.mem hl
    obtain ⟨z, hz⟩ := hx.mem hv
    exact hz.gd
  have hw1 : ∀ m ∈ d1.weights Tryd.prog 46, m ≤ 140737488351232 := fun m hm => by
    have := List.all_eq_true.1 hsz m (List.mem_append_right _ (List.mem_append_left _ hm))
    exact of_decide_eq_true this
  have hb := rows_small hq1 hw1
  refine (QueryHolds.walk y0 y1 n0 g0 hgz hb.1 hb.2 A0 A1 c0 c1 W hG hC0 hl0 hC1 hl1).mono fun e W' ⟨he, bel⟩ => ?_
  subst he
  exact ⟨_, rfl, _, _, _, [], _, [], hW', trodAll_mk1 (shut_bool Tryd.underlying4 _), (trodAll_cons_mk (Below.trod laidOut (by kernel_rfl) (of_decide_eq_true (by kernel_rfl)) k0 bel lt0) (trodAll_cons_mk (Below.trod laidOut (by kernel_rfl) (of_decide_eq_true (by kernel_rfl)) k1 bel lt1) trodAll_mk0)), rfl, bel.frame _, fun h => by cases h⟩

set_option maxRecDepth 100000 in
theorem reads (os : Os) {H : Type} (enc : TypeId × Value → H) : (DataW.whole enc Tryd.prog ((World.doorLaid Tryd.prog 62 os).forCall (fun _ _ => 0) ⟨#[], #[.agg #[.int .i64 0, .int .i64 0, .int .i64 0, .bool false, .int .i64 0, .string ByteArray.empty, .slice none 0 0], .slice none 0 0], []⟩).memory Tryd.f7.params.toList Rows.queryHoldsSpec.vars false #[(.agg #[.int .i64 0, .int .i64 0, .int .i64 0, .bool false, .int .i64 0, .string ByteArray.empty, .slice none 0 0] : Value), (.slice none 0 0 : Value)].toList 8).map (fun x => (x.1, x.2.1)) = some ([.agg [.lit (.int .i64 0), .agg [.lit (.int .i64 0), .lit (.int .i64 0), .agg [.lit (.bool false), .lit (.int .i64 0), .lit (.string [])]], .nil], .nil], []) := by kernel_rfl
set_option maxRecDepth 100000 in
theorem lifted (os : Os) (started : os.Started) (H : Type) (enc : TypeId × Value → H) (F : Stop.Interp) :
    ReturnsInHanded {} Tryd.checked os 7 .any ((OpenSpec.ofChange Rows.queryHoldsSpec).preRow enc Tryd.prog Tryd.f7 Rows.queryHoldsRow.domain false Rows.queryHoldsRow.laid) (((OpenSpec.ofChange Rows.queryHoldsSpec).at F).post enc Tryd.prog Tryd.f7 false true false false) := by
  obtain ⟨⟨x1, x2, x3⟩, hx, hx1⟩ := Option.map_eq_some_iff.1 (reads os enc)
  simp only [Prod.mk.injEq] at hx1
  obtain ⟨rfl, rfl⟩ := hx1
  refine returnsInHanded_of_row (C := Tryd.checked) (s := OpenSpec.ofChange Rows.queryHoldsSpec) own started (by kernel_rfl) Tryd.func7
    (witness_row_atRef (enc := enc) (C := Tryd.checked) false (World.doorLaid Tryd.prog 62 os) #[.agg #[.int .i64 0, .int .i64 0, .int .i64 0, .bool false, .int .i64 0, .string ByteArray.empty, .slice none 0 0], .slice none 0 0] rfl (by kernel_rfl) (by kernel_rfl) (by kernel_rfl)
      (OpenSpec.preRow_of_cond 8 hx (by kernel_rfl) (fun k hk => by cases hk) (by kernel_rfl) (door_met os _))) ?_
  intro W base args ds gs before hval hW _ _ hsz hL _ _
  exact contract H enc W base args ds gs before hval hW hL hsz

theorem said : Rows.QueryHoldsSaid :=
  OpenClaim.holds_of_cond 7 Tryd.f7 rfl rfl rfl rfl rfl rfl rfl ⟨rfl, rfl, rfl, rfl, rfl⟩ rfl rfl rfl rfl rfl (by kernel_rfl) Tryd.func7 (by kernel_rfl)
    (of_decide_eq_true (by kernel_rfl)) (by unfold Func.isWrapper; first | (rw [if_pos (by decide +kernel)]; kernel_rfl) | (rw [if_neg (by decide +kernel)]; exact ⟨rfl, rfl⟩))
    (fun os started H enc _ F => by rw [OpenClaim.pre_eq_preRow]; exact lifted os started H enc F)

theorem plain (f : FuncId) (fn : Func) (hf : Tryd.pinned.checked.prog.funcNamed "tithebarn/tithebarnlaw23.QueryHolds" = some f) (hfn : Tryd.pinned.checked.prog.funcs[f]? = some fn) :
    true = Tryd.pinned.checked.prog.looks [] ∧ ∀ (j : Nat) t, fn.params[j]? = some t → Tryd.pinned.checked.prog.wantsStandIn t = false := by
  obtain rfl : f = 7 := Option.some.inj ((show Tryd.prog.funcNamed "tithebarn/tithebarnlaw23.QueryHolds" = some 7 by kernel_rfl).symm.trans hf) |>.symm
  obtain rfl : fn = Tryd.f7 := (Option.some.inj (Tryd.func7.symm.trans hfn)).symm
  refine ⟨by kernel_rfl, fun j t ht => ?_⟩
  rw [Tryd.params7] at ht
  have hm : t = 28 ∨ t = 46 := by simpa using Array.mem_of_getElem? ht
  rcases hm with rfl | rfl
  · exact (show Tryd.prog.wantsStandIn 28 = false by kernel_rfl)
  · exact (show Tryd.prog.wantsStandIn 46 = false by kernel_rfl)

/-- The card. -/
theorem card : Rows.QueryHoldsCardSaid :=
  Claim7.holds_tied_plain_at .later [] _ _ _ _ said (fun _ h => by cases h) (by kernel_rfl) (fun _ h => by cases h) queryHolds_row_tie rfl ⟨rfl, rfl⟩ (by kernel_rfl) rfl plain (by kernel_rfl)
#print axioms card
end Go.Proofs.YtglcajijmkianaaDoor.queryHolds
namespace Go.Proofs.YtglcajijmkianaaDoor
theorem queryHolds_card : Rows.QueryHoldsCardSaid := queryHolds.card
end Go.Proofs.YtglcajijmkianaaDoor
