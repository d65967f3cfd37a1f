/- Append: a string behind a file's bytes. -/
import Derived.Test.YtephblclhojffaaAx0
import Derived.Test.YtephblclhojffaaHSync
import Derived.IntWalk
namespace Go.Proofs.Ytephblclhojffaa.A
open Go.RowKit Go.Proofs.YtephblclhojffaaW.PrintWords Go.Proofs.YtephblclhojffaaW.PrintLast Go.Proofs.YtephblclhojffaaW.PrintMore
open Go.Maps
set_option linter.unusedVariables false
set_option linter.unusedSimpArgs false

theorem AB_drew {B : Nat} {w W : World} (h : Aside0 (Below B w W)) : Aside0 (Below B w W.drew) := ⟨h.out.drew⟩
theorem AB_then {B : Nat} {w W W2 : World} (h : Aside0 (Below B w W)) (hb : Below W.heap.size W W2) (hB : B ≤ W.heap.size) : Aside0 (Below B w W2) := ⟨h.out.trans (hb.mono hB)⟩
theorem bytes_cells (s : ByteArray) : Lib.strCells s = s.data.toList.map fun c => Value.int .u8 c.toNat := rfl
theorem info5 : ∃ i : TypeInfo, Try.prog.info? 5 = some i ∧ i.zero = some (.int .u8 0) ∧ i.size = 1 ∧ i.bytes = 1 := by
  have h : (Try.prog.info? 5).map (fun i => (i.zero, i.size, i.bytes)) = some (some (.int .u8 0), 1, 1) := by kernel_rfl
  obtain ⟨i, hi, h2⟩ := Option.map_eq_some_iff.1 h
  simp only [Prod.mk.injEq] at h2
  exact ⟨i, hi, h2.1, h2.2.1, h2.2.2⟩
section
variable {w : World} {own : Nat → Prop}
def grownOwn (own : Nat → Prop) (w w' : World) (k : Nat) : Prop := own k ∨ (w.heap.size ≤ k ∧ k < w'.heap.size)
theorem append_run {v : Value} {s : Bs} (h : SlIs true w own v s) (hlt : ∀ k, own k → k < w.heap.size) (y : ByteArray) (ty : TypeId) (hl : s.length + y.size ≤ 140737488355328) :
    ∃ v' w', (Builtin.append_ #[57, 9] ty #[v, .string y]).run Try.prog w = .ok v' w' ∧ SlIs true w' (grownOwn own w w') v' (s ++ y.data.toList) ∧ Only w w' (fun k => v.ownBlock = some k) ∧ ∀ g, v'.ownBlock = some g → v.ownBlock = some g ∨ w.heap.size ≤ g := by
  obtain ⟨i, hi, hz, hsize, hby⟩ := info5
  have hyl : y.data.toList.length = y.size := by rw [Array.length_toList]; rfl
  have hcl : (Lib.strCells y).length = y.size := Lib.strCells_length y
  have grown : ∀ (old : Nat), old < s.length + y.size → ∀ olds : List Value, olds = s.map (fun c => Value.int .u8 c.toNat) → SlIs true (w.drew.alloc (.cells (olds.toArray ++ (Lib.strCells y).toArray ++ Builtin.zeroCells (Value.int .u8 0).cells (grownCap w (s.length + y.size) old 5 - (s.length + y.size))) 5))
      (grownOwn own w (w.drew.alloc (.cells (olds.toArray ++ (Lib.strCells y).toArray ++ Builtin.zeroCells (Value.int .u8 0).cells (grownCap w (s.length + y.size) old 5 - (s.length + y.size))) 5))) (.slice (some ⟨w.heap.size, 0, none⟩) (s.length + y.size) (grownCap w (s.length + y.size) old 5)) (s ++ y.data.toList) := by
    intro old ho olds hol
    have hge := grownCap_ge w (s.length + y.size) old 5
    have hcm : grownCap w (s.length + y.size) old 5 ≤ maxLen := grownCap_le_maxLen w (s.length + y.size) old 5 (by unfold maxLen; omega)
    have hll : olds.length = s.length := by rw [hol]; simp
    refine .inr ⟨w.heap.size, _, _, (0, 0), by rw [List.length_append, hyl], .inr ⟨Nat.le_refl _, by simp⟩, heap_alloc_new w.drew _, fun _ => rfl, by rw [List.length_append, hyl]; exact hge, ?_, hcm, ?_⟩
    · have hz1 : (Value.int IntKind.u8 0).cells.size = 1 := rfl
      simp only [Array.size_append, List.size_toArray, size_zeroCells, hz1, hll, hcl]
      omega
    · simp only [Array.toList_append, List.append_assoc]
      rw [← List.append_assoc, List.length_append, hyl, List.map_append, ← hol, ← bytes_cells]
      exact List.take_left' (by rw [List.length_append, hll, hcl])
  have only : ∀ (o : Obj) (S : Nat → Prop), Only w (w.drew.alloc o) S := fun o S => ⟨rfl, rfl, rfl, by simp, fun k hk _ => Below.heap_alloc w.drew o k hk⟩
  rcases h with ⟨rfl, rfl⟩ | ⟨g, cap, cur, fr, rfl, hog, hg, hfr, hnc, hcs, hcm, htake⟩
  · by_cases hm : y.size = 0
    · have hn : y.data.toList = [] := List.eq_nil_of_length_eq_zero (by rw [hyl]; exact hm)
      refine ⟨.slice none 0 0, w, ?_, .inl ⟨rfl, by rw [hn]; rfl⟩, Only.refl _ _, fun g hg => by simp [Value.ownBlock] at hg⟩
      have hf := Lib.run_firstCells_string (P := Try.prog) w 1 y
      rw [hm] at hf
      simp [Builtin.append_, run_underlying Try.underlying57, run_underlying Try.underlying9, sizeOf, typeInfo, hi, hsize, Builtin.lenOf, hm, hf]
    · have hr := run_append_nil_string (P := Try.prog) w 57 9 ty 5 i (.int .u8 0) Try.underlying57 Try.underlying9 hi hz y (by omega) (by omega) (by rw [hby]; omega)
      have hgr := grown 0 (by simp; omega) [] rfl
      simp only [List.length_nil, Nat.zero_add, List.nil_append, Array.empty_append] at hgr ⊢
      have e1 : (y.data.map fun b => Value.int .u8 b.toNat) = (Lib.strCells y).toArray := by
        apply Array.ext'
        simp [Lib.strCells]
      rw [e1] at hr
      exact ⟨_, _, hr, hgr, only _ _, fun g hg => .inr (by simp [Value.ownBlock] at hg; omega)⟩
  · obtain rfl := hfr rfl
    by_cases hroom : s.length + y.size ≤ cap
    · have hr := Lib.run_append_room_string (P := Try.prog) w 57 9 ty 5 i Try.underlying57 Try.underlying9 hi hsize g s.length cap cur hg y hroom (by omega)
      refine ⟨_, _, hr, .inr ⟨g, cap, _, (0, 0), by rw [List.length_append, hyl], .inl hog, setRow_heap w g cur _ 5 _ hg, fun _ => rfl, by rw [List.length_append, hyl]; exact hroom, ?_, hcm, ?_⟩, ⟨rfl, rfl, rfl, by simp, fun k _ hk => setRow_other w g k _ (fun e => hk (by simp [Value.ownBlock, e]))⟩, fun g' hg' => .inl hg'⟩
      · have : cur.toList.length = cur.size := by simp
        simp only [List.size_toArray, List.length_append, List.length_take, List.length_drop, hcl]
        omega
      · rw [htake, List.length_append, hyl, List.map_append, ← bytes_cells]
        exact List.take_left' (by rw [List.length_append, List.length_map, hcl])
    · have holds : ∀ j u, (s.map fun c => Value.int .u8 c.toNat)[j]? = some u → w.cell? ((⟨g, 0, none⟩ : Addr).add j) = some u := fun j u hu => by
        have e : (⟨g, 0, none⟩ : Addr).add j = ⟨g, j, none⟩ := by unfold Addr.add; split <;> simp_all
        rw [e]
        have hj : j < s.length := by have := (List.getElem?_eq_some_iff.1 hu).1; simpa using this
        rw [← htake, List.getElem?_take_of_lt hj] at hu
        simpa [World.cell?, hg] using hu
      have hr := Lib.run_append_grow_string (P := Try.prog) w 57 9 ty 5 i (.int .u8 0) Try.underlying57 Try.underlying9 hi hz ⟨g, 0, none⟩ s.length cap (s.map fun c => Value.int .u8 c.toNat) (by rw [hsize]; simp) holds y (by omega) (by omega) (by rw [hby]; exact growslice_fits (by omega) (by omega))
      exact ⟨_, _, hr, grown cap (by omega) _ rfl, only _ _, fun g hg => .inr (by simp [Value.ownBlock] at hg; omega)⟩
theorem wpList_append_sl {ops : Array Oper} {rest : List Oper} {o : Oper} {a : Act} {Q : Exit → Act → World → Prop} (hgd : o.guard = none) (sx x : Operand)
    (ho : o.op = .call { callee := .builtin .append, args := #[sx, x], argTypes := #[57, 9] }) {v : Value} {s : Bs} (HS : SlIs true w own v s) (hlt : ∀ k, own k → k < w.heap.size) (hs : a.eval sx = v) (y : ByteArray) (hx : a.eval x = .string y) (hl : s.length + y.size ≤ 140737488355328)
    (h : ∀ v' w', SlIs true w' (grownOwn own w w') v' (s ++ y.data.toList) → Only w w' (fun k => v.ownBlock = some k) → (∀ g, v'.ownBlock = some g → v.ownBlock = some g ∨ w.heap.size ≤ g) → wpList Try.prog ops Q rest (a.put o.dst v') w') : wpList Try.prog ops Q (o :: rest) a w := by
  refine wpList_plain hgd fun K hK => ?_
  obtain ⟨v', w', hr, h2, h3, h4⟩ := append_run HS hlt y o.type hl
  unfold Oper.wp execOp
  simp only [ho, resolve, invoke, builtin, Sem.run_bind, Sem.run_pure, Result.andThen_ok, List.map_toArray, List.map_cons, List.map_nil, hs, hx, hr]
  exact hK _ _ (h v' w' h2 h3 h4)
end

section
variable {w w' : World} {own own' : Nat → Prop} {fb : List Nat} {db dm sm : Nat} {chs : Value} {sl xs : List Value} {M : DM}
/-- What may be counted on: nothing is too great for its number. -/
structure Bd (M : DM) : Prop where
  c0 : 0 ≤ M.calls
  c1 : M.calls < 1048576
  s0 : 0 ≤ M.space
  s1 : M.space ≤ 9223372036854775807
  dl : M.dir.length < 1048576
  sl : M.sdir.length < 1048576
  cl : M.chg.length < 1048576
  dn : ∀ p ∈ M.dir, p.1.length ≤ maxLen
  fits : Fits M 1099511627776
theorem Bd.held {M : DM} (h : Bd M) : held M ≤ 1152921504606846976 := by
  have h1 := heldTo_le M _ h.fits M.dir.length
  rw [heldTo_all] at h1
  have h2 : M.dir.length * 1099511627776 ≤ 1048576 * 1099511627776 := Nat.mul_le_mul_right _ (by have := h.dl; omega)
  omega
theorem tick_bd {M : DM} (h : Bd M) (hc : M.calls + 1 < 1048576) : Bd (tick M) := ⟨by have := h.c0; show 0 ≤ M.calls + 1; omega, hc, h.s0, h.s1, h.dl, h.sl, h.cl, h.dn, h.fits⟩
set_option maxHeartbeats 4000000 in
theorem Append.calls (h : DiskR true w own db dm sm chs fb sl xs M) (nm s : ByteArray) (hs : nm.size ≤ maxLen) (hss : s.size ≤ 1099511627776) (hB : Bd M) :
    Calls Try.prog 29 #[.pointer (some ⟨db, 0, none⟩), .string nm, .string s] w fun e w' => e = .returned (.int .i64 (appendF M nm.data.toList s.data.toList).2) ∧ Went true w w' own db (appendF M nm.data.toList s.data.toList).1 := by
  have hn := named.calls h nm hs hB.c0 (by have := hB.c1; omega)
  have hodb := h.odb
  have HS0 := Aside0.mk (show s.data.toList.length = s.size by rw [Array.length_toList]; rfl)
  by_cases he : callE M = 0
  · cases hg : dGet M.dir nm.data.toList with
    | none =>
      obtain ⟨e1, e2⟩ := named_none M _ fb he hg
      rw [e1, e2] at hn
      have E := Aside0.mk (show appendF M nm.data.toList s.data.toList = (tick M, 12) by unfold appendF; rw [if_neg (by rw [he]; simp), hg])
      clear h he hg hs hB e1 e2 hss
      go_enter Try.func29, Try.ntmps29
      go_wp2_with fail
      refine hn.mono ?_
      rintro e w1 ⟨rfl, h1, h2, h3⟩
      have H1 := Aside0.mk h1; have H2 := Aside0.mk h2
      clear h1 h2 h3
      go_wp2
      go_ret
      exact ⟨by rw [E.out]; rfl, Went.same H1.out (by rw [E.out]) (H2.out.mono (fun k _ e => e ▸ hodb))⟩
    | some i =>
      obtain ⟨e1, e2⟩ := named_some M _ fb he hg
      rw [e1, e2] at hn
      have HG := Aside0.mk hg
      obtain ⟨v, hi, -⟩ := h.file hg
      have HB := Aside0.mk hB
      have Hi := Aside0.mk hi
      have HE := Aside0.mk he
      have HSS := Aside0.mk hss
      obtain ⟨b, hbb⟩ : ∃ b, fbG fb i = b := ⟨_, rfl⟩
      rw [hbb] at hn
      have HBB := Aside0.mk hbb
      clear h he hg hs e1 e2 hi hB hss hbb
      go_enter Try.func29, Try.ntmps29
      go_wp2_with fail
      refine hn.mono ?_
      rintro e w1 ⟨rfl, h1, h2, h3⟩
      have HH := Aside0.mk (fun W (hb : Below w1.heap.size w1 W) => Held.calls (h1.below hb) (Nat.le_of_lt HB.out.dl) HB.out.fits HB.out.dn)
      have c0 := cells_of h1.bdb 0 rfl
      have H1 := Aside0.mk h1; have H2 := Aside0.mk h2
      clear h1 h2 h3
      have HT := Aside0.mk (show held (tick M) = held M from rfl)
      have hheld := HB.out.held
      have hs0 := HB.out.s0
      have hs1 := HB.out.s1
      change w1.cell? ⟨db, 0, none⟩ = some (.int .i64 M.space) at c0
      have HEv := Aside0.mk (show appendF M nm.data.toList s.data.toList = if M.space - (held M : Int) < s.size then (tick M, 10) else ({ tick M with files := M.files.set i ((M.files.getD i ([], 0)).1 ++ s.data.toList, (M.files.getD i ([], 0)).2) }, 0) by
        unfold appendF; rw [if_neg (by rw [HE.out]; simp), HG.out]; simp only; rw [modify_set _ Hi.out, HS0.out])
      have HH2 := Aside0.mk (fun W (hb : Below w1.heap.size w1 W) => show Calls Try.prog 21 #[.pointer (some ⟨db, 0, none⟩)] W fun e w' => e = .returned (.int .i64 (held M)) ∧ Below W.heap.size W w' from HH.out W hb)
      clear HH HT
      generalize held M = hd at hheld HEv HH2
      generalize hsp : M.space = sp at hs0 hs1 c0 HEv
      clear hsp
      have HSUB := Aside0.mk (show IntKind.i64.wrap (sp - (hd : Int)) = sp - (hd : Int) from IntWalk.i64_in _ ⟨by omega, by omega⟩)
      have HBW := Aside0.mk (Below.refl w1.heap.size w1)
      by_cases hlt : sp - (hd : Int) < s.size
      · have E := Aside0.mk (HEv.out.trans (if_pos hlt))
        have hd1 : decide (sp - (hd : Int) < (s.size : Int)) = true := by rw [decide_eq_true_eq]; exact hlt
        have HLT := Aside0.mk hlt
        clear hlt hs0 hs1 hheld HEv
        clear hd1
        go_wp2_with fail
        have hsub := HSUB.out
        have hd1 : decide (sp - (hd : Int) < (s.size : Int)) = true := by rw [decide_eq_true_eq]; have := HLT.out; omega
        go_region_held3 (fun w' => w'.cell? ⟨db, 0, none⟩ = some (.int .i64 sp) ∧ Aside0 (Below w1.heap.size w1 w'))
          ((repeat' apply And.intro) <;> (first | assumption | exact pw_cell_below hb' (by assumption) | exact AB_then (by assumption) hb' | exact AB_drew (by assumption) | go_keep))
          (first | (go_at_call 21; refine (HH2.out _ (below_drew HBW.out)).mono ?_; rintro e w2 ⟨rfl, hb'⟩; (have HB2 := Aside0.mk ((below_drew HBW.out).trans (hb'.mono ((below_drew HBW.out).size))))))
        go_wp2
        go_ret
        exact ⟨by rw [E.out]; rfl, Went.same (H1.out.below HB2.out) (by rw [E.out]) ((H2.out.mono (fun k _ e => e ▸ hodb)).trans (Only.of_below HB2.out own) (fun _ _ h => h))⟩
      · have E := Aside0.mk (HEv.out.trans (if_neg hlt))
        have HLT := Aside0.mk hlt
        clear hlt hs0 hs1 hheld HEv
        go_wp2_with fail
        have hsub := HSUB.out
        have hd1 : decide (sp - (hd : Int) < (s.size : Int)) = false := by rw [decide_eq_false_iff_not]; have := HLT.out; omega
        go_region_held3 (fun w' => w'.cell? ⟨db, 0, none⟩ = some (.int .i64 sp) ∧ Aside0 (Below w1.heap.size w1 w'))
          ((repeat' apply And.intro) <;> (first | assumption | exact pw_cell_below hb' (by assumption) | exact AB_then (by assumption) hb' | exact AB_drew (by assumption) | go_keep))
          (first | (go_at_call 21; refine (HH2.out _ (below_drew HBW.out)).mono ?_; rintro e w2 ⟨rfl, hb'⟩; (have HB2 := Aside0.mk ((below_drew HBW.out).trans (hb'.mono ((below_drew HBW.out).size))))))
        clear hsub hd1
        have h1 := H1.out.below HB2.out
        obtain ⟨v, hi, hb, hv, hblk, hsl⟩ := h1.file (M := tick M) HG.out
        rw [HBB.out] at hb hblk
        have hfit : (M.files.getD i ([], 0)).1.length ≤ 1099511627776 := HB.out.fits i
        have hfo := h1.files.ow i _ hb
        have H1' := Aside0.mk h1
        have c0' := cells_of hblk 0 rfl
        change w2.cell? ⟨b, 0, none⟩ = some v at c0'
        change w2.heap[b]? = some (.cells #[v, .int .i64 (M.files.getD i ([], 0)).2] 59 (0, 0)) at hblk
        change SlIs true w2 own v (M.files.getD i ([], 0)).1 at hsl
        have HBk := Aside0.mk hblk; have HSl := Aside0.mk hsl; have Hb := Aside0.mk hb; have Hv := Aside0.mk hv; have Hfo := Aside0.mk hfo
        have HLen := Aside0.mk (show (M.files.getD i ([], 0)).1.length + s.size ≤ 140737488355328 by have := HSS.out; omega)
        clear h1 hi hb hv hblk hsl hfit hfo
        generalize (M.files.getD i ([], 0)).1 = tx at *
        generalize (M.files.getD i ([], 0)).2 = sr at *
        go_wp2_with (at_builtin; refine wpList_append_sl rfl _ _ rfl HSl.out H1'.out.lt rfl s rfl HLen.out ?_)
        intro v2 w3 hs2 ho2 hn2
        have hne : v.ownBlock ≠ some b := fun e => by
          obtain ⟨_, x, fr, h6⟩ := HSl.out.block e
          exact ne_shape h6 HBk.out (by decide) rfl
        have hblk3 : w3.heap[b]? = some (.cells #[v, .int .i64 sr] 59 (0, 0)) := (ho2.block b (H1'.out.lt b Hfo.out) hne).trans HBk.out
        have c3 := cells_of hblk3 0 rfl
        have f3 := free_of hblk3 0
        have hfin : DiskR true (w3.setCell ⟨b, 0, none⟩ v2) (grownOwn own w2 w3) db dm sm chs fb (sl.set i v2) xs { tick M with files := M.files.set i (tx ++ s.data.toList, sr) } := by
          have hkk : ∀ k, k ≠ b → (w3.setCell ⟨b, 0, none⟩ v2).heap[k]? = w3.heap[k]? := fun k hk => Below.heap_setCell _ _ _ _ hk
          have hsz : (w3.setCell ⟨b, 0, none⟩ v2).heap.size = w3.heap.size := by simp [World.setCell]
          refine H1'.out.fileSet Hb.out Hv.out v2 (tx ++ s.data.toList, sr) (fun _ h => .inl h) (fun k hk => ?_) (fun k h1 h2 h3 => ?_) (heap_set hblk3 0 _) (hs2.kept (fun g hg => hkk g ?_) (fun _ h => h)) (fun g hg => ?_)
          · rw [hsz]
            rcases hk with hk | hk
            · exact Nat.lt_of_lt_of_le (H1'.out.lt k hk) ho2.size
            · exact hk.2
          · exact (hkk k h2).trans (ho2.block k (H1'.out.lt k h1) h3)
          · obtain ⟨_, x, fr, h6⟩ := hs2.block hg
            exact ne_shape h6 hblk3 (by decide)
          · rcases hn2 g hg with h | h
            · exact .inl h
            · exact .inr (fun h2 => by have := H1'.out.lt g h2; omega)
        have HO : Only w (w3.setCell ⟨b, 0, none⟩ v2) own := by
          have hsv : ∀ k, v.ownBlock = some k → own k := fun k hk => (HSl.out.block hk).1
          exact (((H2.out.mono (fun k _ e => e ▸ hodb)).trans (Only.of_below HB2.out own) (fun _ _ h => h)).trans (ho2.mono (fun k _ h => hsv k h)) (fun _ _ h => h)).trans (Only.setCell (S := own) (a := ⟨b, 0, none⟩) Hfo.out v2) (fun _ _ h => h)
        have HFIN := Aside0.mk hfin
        have HOO := Aside0.mk HO
        have HSZ := Aside0.mk (show w.heap.size ≤ w2.heap.size from Nat.le_trans H2.out.size HB2.out.size)
        have hsh : ∃ A2 n2 c2, v2 = .slice A2 n2 c2 := by
          rcases hs2 with ⟨rfl, _⟩ | ⟨g, cap, cur, fr, rfl, _⟩
          · exact ⟨_, _, _, rfl⟩
          · exact ⟨_, _, _, rfl⟩
        clear hs2 ho2 hn2 hne hblk3 hfin HO
        obtain ⟨A2, n2, c2, rfl⟩ := hsh
        go_wp2
        go_ret
        exact ⟨by rw [E.out]; rfl, Went.mk HFIN.out (by rw [E.out]) (fun k hk => hk.imp (fun h => h) (fun h => Nat.le_trans HSZ.out h.1)) HOO.out⟩
  · obtain ⟨e1, e2, e3, e4⟩ := named_bad M nm.data.toList fb he
    rw [e1, e2] at hn
    have E := Aside0.mk (show appendF M nm.data.toList s.data.toList = (tick M, callE M) from if_pos he)
    clear h he hs hB e1 e2 hss
    go_enter Try.func29, Try.ntmps29
    go_wp2_with fail
    refine hn.mono ?_
    rintro e w1 ⟨rfl, h1, h2, h3⟩
    have H1 := Aside0.mk h1; have H2 := Aside0.mk h2
    clear h1 h2 h3
    go_wp2
    go_ret
    exact ⟨by rw [E.out]; rfl, Went.same H1.out (by rw [E.out]) (H2.out.mono (fun k _ e => e ▸ hodb))⟩
end
end Go.Proofs.Ytephblclhojffaa.A
