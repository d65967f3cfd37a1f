/- A query's words, behind others, on every query whose words are few enough. -/
import Derived.Test.YtglcajijmkianaaDoorAx0
import Derived.Test.YtglcajijmkianaaDoorAx2
import Derived.Test.YtglcajijmkianaaDoorHLib
import Derived.Test.YtglcajijmkianaaDoorHAsk
import Derived.Test.YtglcajijmkianaaDoorHQuery
import Derived.Deep.AppendLies
import Derived.Deep.RegionHeld3
namespace Go.Proofs.YtglcajijmkianaaDoor.A
open Go.RowKit Go.Proofs.YtglcajijmkianaaDoorW.PrintWords Go.Proofs.YtglcajijmkianaaDoorW.PrintLast Go.Proofs.YtglcajijmkianaaDoorW.PrintMore
open Go.Shelf Go.Lib Go.Sort
set_option linter.unusedVariables false
set_option linter.unusedSimpArgs false

def itoaB (n : Int) : ByteArray := ⟨(Lib.itoa n).toArray⟩
def in64 (n : Int) : Prop := -9223372036854775808 ≤ n ∧ n ≤ 9223372036854775807
instance (n : Int) : Decidable (in64 n) := by unfold in64; infer_instance
/-- The words of an ask. -/
def askWords (a : S25) : List ByteArray := [itoaB a.f1, signsL.getD a.f0.toNat ⟨#[]⟩] ++ (if 4 ≤ a.f0 then [] else if a.f2.f2.toList.isEmpty then [itoaB a.f2.f1] else [(⟨#[39]⟩ : ByteArray) ++ a.f2.f2])
/-- A query's words; none where it may not be. -/
def wordsO : Nat → S28 → Option (List ByteArray)
  | 0, _ => none
  | left + 1, q => if q.f0 = 1 then (if in64 q.f1.f1 ∧ in64 q.f1.f2.f1 ∧ 1 ≤ q.f1.f0 ∧ q.f1.f0 ≤ 5 ∧ q.f1.f2.f2.size ≤ 4096 then some (askWords q.f1) else none)
    else if q.f0 = 4 then match q.f2 with
      | k :: _ => (wordsO left k).map fun ws => [(⟨#[40]⟩ : ByteArray), ⟨#[110, 111, 116]⟩] ++ ws ++ [⟨#[41]⟩]
      | [] => none
    else match q.f2 with
      | k :: l :: _ => (wordsO left k).bind fun ws => (wordsO left l).map fun us => [(⟨#[40]⟩ : ByteArray)] ++ ws ++ [if q.f0 = 3 then (⟨#[111, 114]⟩ : ByteArray) else ⟨#[97, 110, 100]⟩] ++ us ++ [⟨#[41]⟩]
      | _ => none

/-- A row of words of the call's own, over the reader's world. -/
structure WS (w0 w : World) (v : Value) (xs : List ByteArray) : Prop where
  own : w.ownsRow w0.heap.size 9 1 v xs.length (xs.map Value.string)
  bel : Below w0.heap.size w0 w
theorem WS.below {w0 w w' : World} {v : Value} {xs : List ByteArray} (h : WS w0 w v xs) (hb : Below w.heap.size w w') : WS w0 w' v xs := ⟨pw_own_below h.own hb, h.bel.trans (hb.mono h.bel.size)⟩
theorem WS.nil (w : World) : WS w w (.slice none 0 0) [] := ⟨own_nil _ _ _ _, Below.refl _ _⟩
/-- What an append, or words, leaves as it was: what is no row of words; and every block but the row's own. Where the row lies behind it. -/
structure K9 (w : World) (v : Value) (w' : World) (v' : Value) : Prop where
  size : w.heap.size ≤ w'.heap.size
  typ : ∀ (k : Nat) cs t, w.heap[k]? = some (.cells cs t (0, 0)) → t ≠ 9 → w'.heap[k]? = w.heap[k]?
  keep : ∀ k, k < w.heap.size → some k ≠ v.ownBlock → w'.heap[k]? = w.heap[k]?
  row : v'.ownBlock = v.ownBlock ∨ ∃ g, v'.ownBlock = some g ∧ w.heap.size ≤ g
theorem K9.trans {w w1 w2 : World} {v v1 v2 : Value} (h : K9 w v w1 v1) (h2 : K9 w1 v1 w2 v2) : K9 w v w2 v2 := by
  refine ⟨Nat.le_trans h.size h2.size, fun k cs t hk ht => (h2.typ k cs t ((h.typ k cs t hk ht).trans hk) ht).trans (h.typ k cs t hk ht), fun k hk hn => (h2.keep k (Nat.lt_of_lt_of_le hk h.size) ?_).trans (h.keep k hk hn), ?_⟩
  · rcases h.row with e | ⟨g, e, hg⟩
    · rw [e]; exact hn
    · rw [e]; intro e2; cases e2; omega
  · rcases h2.row with e | ⟨g, e, hg⟩
    · rw [e]; exact h.row
    · exact .inr ⟨g, e, Nat.le_trans h.size hg⟩
theorem K9.below {w w' : World} {v : Value} (hb : Below w.heap.size w w') : K9 w v w' v := ⟨hb.size, fun k cs t hk ht => hb.block k (blk_lt hk), fun k hk _ => hb.block k hk, .inl rfl⟩
theorem K9.blk {w w' : World} {v v' : Value} (h : K9 w v w' v') {k : Nat} {cs : Array Value} {t : Nat} (hk : w.heap[k]? = some (.cells cs t (0, 0))) (ht : t ≠ 9) : w'.heap[k]? = some (.cells cs t (0, 0)) := (h.typ k cs t hk ht).trans hk
theorem K9.far {w w' : World} {v v' : Value} (h : K9 w v w' v') {k : Nat} {o : Obj} (hk : w.heap[k]? = some o) (hn : some k ≠ v.ownBlock) : w'.heap[k]? = some o := (h.keep k (blk_lt hk) hn).trans hk

theorem K9.ne {w w' : World} {v v' : Value} (h : K9 w v w' v') {k : Nat} (hk : k < w.heap.size) (hn : some k ≠ v.ownBlock) : some k ≠ v'.ownBlock := by
  rcases h.row with e | ⟨g, e, hg⟩
  · rw [e]; exact hn
  · rw [e]; intro e2; cases e2; omega

section
variable {ops : Array Oper} {rest : List Oper} {o : Oper} {a : Act} {Q : Exit → Act → World → Prop} {K : Act → World → Prop} {E : Prop}
theorem app_any {w0 W : World} (ty : TypeId) (v : Value) (xs ys : List ByteArray) (m B : Nat) (hm : ys.length = m) (h0 : 0 < m) (hI : WS w0 W v xs) (hB : W.heap[B]? = some (.cells (ys.map Value.string).toArray 9 (0, 0))) (hl : (xs.length + ys.length) * 16 ≤ 140737488355328) :
    ∃ v1 w1, (Builtin.append_ #[39, 39] ty #[v, .slice (some ⟨B, 0, none⟩) m m]).run Tryd.prog W = .ok v1 w1 ∧ WS w0 w1 v1 (xs ++ ys) ∧ K9 W v w1 v1 := by
  obtain ⟨i0, hi, hzz⟩ := Option.map_eq_some_iff.1 (show (Tryd.prog.info? 9).map (fun i => (i.zero, i.size, i.bytes)) = some (some (.string ⟨#[]⟩), 1, 16) by kernel_rfl)
  simp only [Prod.mk.injEq] at hzz
  obtain ⟨hz0, hz1, hz2⟩ := hzz
  have hb := hI.bel.size
  obtain ⟨g, cap, w1, hr, hown, hg, hat, hlt⟩ := run_append_lies (P := Tryd.prog) W 39 ty w0.heap.size 9 i0 _ 1 16 Tryd.underlying39 hi hz0 hz1 hz2 rfl (by omega) v xs.length _ hI.own ⟨B, 0, none⟩ m m (ys.map Value.string) (by simp [hm])
    (by simpa using World.news_of_block (cs := (ys.map Value.string).toArray) (t := 9) (fr := (0, 0)) hB)
    (by intro u hu; obtain ⟨y, _, rfl⟩ := List.mem_map.mp hu; rfl) h0 (by simp only [maxLen]; omega) (by rw [← hm]; exact hl) hI.bel.size _ rfl
  refine ⟨_, w1, hr, ⟨by simpa [hm] using hown, hI.bel.grown hg hI.bel.size (own_base hI.own)⟩, hg.size, fun k cs t hk ht => hg.block k (blk_lt hk) (own_ne hI.own hk (Ne.symm ht)), fun k hk hn => hg.block k hk hn, ?_⟩
  rcases hat with e | e
  · exact .inl e.symm
  · exact .inr ⟨g, rfl, by omega⟩
theorem app_run {w0 W : World} (ty : TypeId) (v : Value) (xs ys : List ByteArray) (m : Nat) (hm : ys.length = m) (h0 : 0 < m) (hI : WS w0 W v xs) (hl : (xs.length + ys.length) * 16 ≤ 140737488355328) :
    ∃ v1 w1, (Builtin.append_ #[39, 39] ty #[v, .slice (some ⟨W.heap.size, 0, none⟩) m m]).run Tryd.prog (W.alloc (.cells (ys.map Value.string).toArray 9)) = .ok v1 w1 ∧ WS w0 w1 v1 (xs ++ ys) ∧ K9 W v w1 v1 := by
  have hb := below_alloc (Below.refl W.heap.size W) (.cells (ys.map Value.string).toArray 9)
  obtain ⟨v1, w1, hr, h2, h3⟩ := app_any ty v xs ys m W.heap.size hm h0 (hI.below hb) (heap_alloc_new W _) hl
  exact ⟨v1, w1, hr, h2, (K9.below hb).trans h3⟩
/-- append of a literal's words, in a plain region. -/
theorem app_list {w0 W : World} (hgd : o.guard = none) (s x : Operand) (ho : o.op = .call { callee := .builtin .append, args := #[s, x], argTypes := #[39, 39] })
    (v : Value) (xs ys : List ByteArray) (m : Nat) (hm : ys.length = m) (h0 : 0 < m) (hs : a.eval s = v) (hx : a.eval x = .slice (some ⟨W.heap.size, 0, none⟩) m m) (hI : WS w0 W v xs) (hl : (xs.length + ys.length) * 16 ≤ 140737488355328)
    (h : ∀ v1 w1, WS w0 w1 v1 (xs ++ ys) → K9 W v w1 v1 → wpList Tryd.prog ops Q rest (a.put o.dst v1) w1) :
    wpList Tryd.prog ops Q (o :: rest) a (W.alloc (.cells (ys.map Value.string).toArray 9)) := by
  obtain ⟨v1, w1, hr, h2, h3⟩ := app_run o.type v xs ys m hm h0 hI hl
  refine wpList_plain hgd fun _ hK => ?_
  unfold Oper.wp execOp
  simp only [ho, resolve, invoke, builtin, Sem.run_bind, Sem.run_pure, Result.andThen_ok, List.map_toArray, List.map_cons, List.map_nil, hs, hx, hr]
  exact hK _ _ (h v1 w1 h2 h3)
/-- The same at a step of a region that draws. -/
theorem app_step {w0 W : World} (hgd : o.guard = none) (s x : Operand) (ho : o.op = .call { callee := .builtin .append, args := #[s, x], argTypes := #[39, 39] })
    (v : Value) (xs ys : List ByteArray) (m : Nat) (hm : ys.length = m) (h0 : 0 < m) (hs : a.eval s = v) (hx : a.eval x = .slice (some ⟨W.heap.size, 0, none⟩) m m) (hI : WS w0 W v xs) (hl : (xs.length + ys.length) * 16 ≤ 140737488355328)
    (h : ∀ v1 w1, WS w0 w1 v1 (xs ++ ys) → K9 W v w1 v1 → K (a.put o.dst v1) w1) :
    if Region.wanted o (yielded ops a.tmps) = true then Oper.wp Tryd.prog o a (W.alloc (.cells (ys.map Value.string).toArray 9)) K Q else E := by
  obtain ⟨v1, w1, hr, h2, h3⟩ := app_run o.type v xs ys m hm h0 hI hl
  have hw : Region.wanted o (yielded ops a.tmps) = true := by simp [Region.wanted, hgd]
  rw [if_pos hw]
  unfold Oper.wp execOp
  simp only [ho, resolve, invoke, builtin, Sem.run_bind, Sem.run_pure, Result.andThen_ok, List.map_toArray, List.map_cons, List.map_nil, hs, hx, hr]
  exact h v1 w1 h2 h3
/-- The same, where the literal's words were made before. -/
theorem app_step_any {w0 W : World} (hgd : o.guard = none) (s x : Operand) (ho : o.op = .call { callee := .builtin .append, args := #[s, x], argTypes := #[39, 39] })
    (v : Value) (xs ys : List ByteArray) (m B : Nat) (hm : ys.length = m) (h0 : 0 < m) (hs : a.eval s = v) (hx : a.eval x = .slice (some ⟨B, 0, none⟩) m m) (hI : WS w0 W v xs) (hB : W.heap[B]? = some (.cells (ys.map Value.string).toArray 9 (0, 0))) (hl : (xs.length + ys.length) * 16 ≤ 140737488355328)
    (h : ∀ v1 w1, WS w0 w1 v1 (xs ++ ys) → K9 W v w1 v1 → K (a.put o.dst v1) w1) :
    if Region.wanted o (yielded ops a.tmps) = true then Oper.wp Tryd.prog o a W K Q else E := by
  obtain ⟨v1, w1, hr, h2, h3⟩ := app_any o.type v xs ys m B hm h0 hI hB hl
  have hw : Region.wanted o (yielded ops a.tmps) = true := by simp [Region.wanted, hgd]
  rw [if_pos hw]
  unfold Oper.wp execOp
  simp only [ho, resolve, invoke, builtin, Sem.run_bind, Sem.run_pure, Result.andThen_ok, List.map_toArray, List.map_cons, List.map_nil, hs, hx, hr]
  exact h v1 w1 h2 h3
end

theorem bound1 {N : Nat} {xs ys zs : List ByteArray} (hl : (xs.length + (ys ++ zs).length) * 16 ≤ N) : (xs.length + ys.length) * 16 ≤ N := by rw [List.length_append] at hl; omega
theorem bound2 {N : Nat} {xs ys zs : List ByteArray} (hl : (xs.length + (ys ++ zs).length) * 16 ≤ N) : ((xs ++ ys).length + zs.length) * 16 ≤ N := by rw [List.length_append] at hl ⊢; omega

/-- What is shown of every order under a stronger condition is shown under a weaker one. -/
theorem wpAnyH_mono {P : Program} {md : Region.Mode} {ops : Array Oper} {Q : Exit → Act → World → Prop} {S S2 : World → Prop} (h : ∀ w, S2 w → S w) :
    ∀ (fuel : Nat) (listed : Array Bool) (a : Act) (w : World), wpAnyH P md ops Q S2 fuel listed a w → wpAnyH P md ops Q S fuel listed a w
  | 0, _, _, _, hh => hh
  | fuel + 1, _, _, _, hh => ⟨hh.1, fun i hi => wpOp_mono (fun a' w' h' => ⟨h w' h'.1, wpAnyH_mono h fuel _ a' w' h'.2⟩) (hh.2 i hi)⟩

def WordsSaid (left : Nat) : Prop := ∀ (w0 : World) (q : S28) (ws : List ByteArray) (A : Option Addr) (c : Nat) (v : Value) (xs : List ByteArray) (w : World), Globs w0 → Kd.C k28 w0 A q.f2.length q.f2 → q.f2.length ≤ c → WS w0 w v xs → (xs.length + ws.length) * 16 ≤ 140737488355328 → wordsO left q = some ws →
    Calls Tryd.prog 26 #[v, .agg #[.int .i64 q.f0, .int .i64 q.f1.f0, .int .i64 q.f1.f1, .bool q.f1.f2.f0, .int .i64 q.f1.f2.f1, .string q.f1.f2.f2, .slice A q.f2.length c]] w fun e w' => ∃ v', e = .returned v' ∧ WS w0 w' v' (xs ++ ws) ∧ K9 w v w' v'

theorem signs_at {w : World} {base : Nat} {ok : Nat → Prop} {v0 : Value} (h : Kd.R Kd.string 9 w base ok v0 signsL) {j : Nat} {sg : ByteArray} (hj : signsL[j]? = some sg) :
    ∃ g cap, v0 = .slice (some ⟨g, 0, none⟩) 6 cap ∧ w.cell? ⟨g, j, none⟩ = some (.string sg) ∧ base ≤ g := by
  obtain ⟨inner, ho⟩ := Kd.R_own h
  obtain ⟨g, cap, rfl, hg, _⟩ := ho.form (by show 0 < 6; omega)
  obtain ⟨A, c, e, hl, hC⟩ := Kd.R_reads h
  cases e
  refine ⟨g, cap, rfl, ?_, hg⟩
  obtain ⟨ad, e, hall⟩ := hC.2.2 (by show 0 < 6; omega)
  cases e
  obtain ⟨cs, hl, hK, hc⟩ := hall j sg hj
  have hK' : cs = [.string sg] := hK
  subst hK'
  have := hc 0 _ rfl
  have hsz : Kd.string.sz = 1 := rfl
  simpa [hsz, add_plain'] using this

set_option maxRecDepth 100000 in
set_option maxHeartbeats 8000000 in
theorem words_ask (left : Nat) (w0 : World) (q : S28) (ws : List ByteArray) (A : Option Addr) (c : Nat) (v : Value) (xs : List ByteArray) (w : World) (hG : Globs w0) (hI : WS w0 w v xs) (hl : (xs.length + ws.length) * 16 ≤ 140737488355328) (h : wordsO (left + 1) q = some ws) (h1 : q.f0 = 1) :
    Calls Tryd.prog 26 #[v, .agg #[.int .i64 q.f0, .int .i64 q.f1.f0, .int .i64 q.f1.f1, .bool q.f1.f2.f0, .int .i64 q.f1.f2.f1, .string q.f1.f2.f2, .slice A q.f2.length c]] w fun e w' => ∃ v', e = .returned v' ∧ WS w0 w' v' (xs ++ ws) ∧ K9 w v w' v' := by
  unfold wordsO at h
  rw [if_pos h1] at h
  split at h
  case isFalse => cases h
  rename_i hq
  obtain ⟨r1, r2, o0, o5, osz⟩ := hq
  have oss : ¬ 9223372036854775807 < 1 + q.f1.f2.f2.size := by omega
  obtain rfl := Option.some.inj h
  have hu28 := Tryd.underlying28
  have hu25 := Tryd.underlying25
  have hu23 := Tryd.underlying23
  have hu39 := Tryd.underlying39
  have e1 : (q.f0 == 1) = true := by simpa using h1
  have oz : (0 : Int) ≤ q.f1.f0 := by omega
  have o6 : q.f1.f0 < 6 := by omega
  have hsg : ∃ sg, signsL[q.f1.f0.toNat]? = some sg := ⟨_, List.getElem?_eq_getElem (by show _ < 6; omega)⟩
  obtain ⟨sg, hsg⟩ := hsg
  have hsd : signsL.getD q.f1.f0.toNat ⟨#[]⟩ = sg := by simp [List.getD, hsg]
  have HIT := Aside0.mk (fun W hG => strconv_Itoa.calls q.f1.f1 (itoaB q.f1.f1) W (by unfold strconv_Itoa.f; exact if_pos r1) hG)
  have HFM := Aside0.mk (fun W hG => strconv_FormatInt.calls q.f1.f2.f1 10 (itoaB q.f1.f2.f1) W (by unfold strconv_FormatInt.f; exact if_pos ⟨r2.1, r2.2, rfl⟩) hG)
  have HSG := Aside0.mk (fun W base ok v0 h => signs_at (w := W) (base := base) (ok := ok) (v0 := v0) h hsg)
  have HG := Aside0.mk hG
  have HI := Aside0.mk (hI.below (below_alloc (Below.refl _ _) (Obj.cells #[.int .i64 q.f0, .int .i64 q.f1.f0, .int .i64 q.f1.f1, .bool q.f1.f2.f0, .int .i64 q.f1.f2.f1, .string q.f1.f2.f2, .slice A q.f2.length c] 28)))
  have HK := Aside0.mk (K9.below (v := v) (below_alloc (Below.refl w.heap.size w) (Obj.cells #[.int .i64 q.f0, .int .i64 q.f1.f0, .int .i64 q.f1.f1, .bool q.f1.f2.f0, .int .i64 q.f1.f2.f1, .string q.f1.f2.f2, .slice A q.f2.length c] 28)))
  have KB := Aside0.mk (blk_new w (Obj.cells #[.int .i64 q.f0, .int .i64 q.f1.f0, .int .i64 q.f1.f1, .bool q.f1.f2.f0, .int .i64 q.f1.f2.f1, .string q.f1.f2.f2, .slice A q.f2.length c] 28))
  have HL := Aside0.mk hl
  obtain ⟨rest, hw0⟩ : ∃ rest, askWords q.f1 = [itoaB q.f1.f1, sg] ++ rest := ⟨_, by unfold askWords; rw [hsd]⟩
  have HL2 := Aside0.mk (bound1 (by rw [← hw0]; exact hl) : (xs.length + [itoaB q.f1.f1, sg].length) * 16 ≤ 140737488355328)
  clear hw0
  clear hsg hG hI hl r1 r2 h h1
  go_enter Tryd.func26, Tryd.ntmps26
  go_wp2_with fail
  generalize w.alloc _ = W1 at HI HK KB ⊢
  generalize hbb : w.heap.size = b at KB ⊢
  have c1 := (blk_cell KB.out 1).trans rfl
  have c2 := (blk_cell KB.out 2).trans rfl
  clear hbb
  refine wp_region_held_drew (S := (fun w' : World => w'.cell? ⟨b, 1, none⟩ = some (.int .i64 q.f1.f0) ∧ w'.cell? ⟨b, 2, none⟩ = some (.int .i64 q.f1.f1))) (by kernel_rfl) ?_ (fun hHeld => ?_)
  · refine ⟨?_, ?_⟩ <;> first | assumption | go_keep
  refine' wpAnyH_take (i := 0) (oi := _) (v := _) ?hi0 ?hs0 ?hf0 ?hr0 ?hQ0 ?hy0 ?hS0 ?rest0
  case hi0 => rfl
  case hs0 => kernel_rfl
  case hf0 => kernel_rfl
  case hr0 => kernel_rfl
  case hQ0 => exact fun _ _ _ h => h
  case hS0 => assumption
  case hy0 =>
    refine Or.inl ⟨by rfl, ?_⟩
    intro w hSw
    try dsimp only at hSw
    go_simp <;> (with_reducible rfl)
  try simp only [Act.put, List.setIfInBounds_toArray, List.set_cons_zero, List.set_cons_succ]
  refine' wpAnyH_take (i := 1) (oi := _) (v := _) ?hi1 ?hs1 ?hf1 ?hr1 ?hQ1 ?hy1 ?hS1 ?rest1
  case hi1 => rfl
  case hs1 => kernel_rfl
  case hf1 => kernel_rfl
  case hr1 => kernel_rfl
  case hQ1 => exact fun _ _ _ h => h
  case hS1 => assumption
  case hy1 =>
    refine Or.inl ⟨by rfl, ?_⟩
    intro w hSw
    try dsimp only at hSw
    go_simp <;> (with_reducible rfl)
  try simp only [Act.put, List.setIfInBounds_toArray, List.set_cons_zero, List.set_cons_succ]
  refine' wpAnyH_take (i := 2) (oi := _) (v := _) ?hi2 ?hs2 ?hf2 ?hr2 ?hQ2 ?hy2 ?hS2 ?rest2
  case hi2 => rfl
  case hs2 => kernel_rfl
  case hf2 => kernel_rfl
  case hr2 => kernel_rfl
  case hQ2 => exact fun _ _ _ h => h
  case hS2 => assumption
  case hy2 =>
    refine Or.inl ⟨by rfl, ?_⟩
    intro w hSw
    try dsimp only at hSw
    go_simp <;> (with_reducible rfl)
  try simp only [Act.put, List.setIfInBounds_toArray, List.set_cons_zero, List.set_cons_succ]
  refine' wpAnyH_take (i := 3) (oi := _) (v := _) ?hi3 ?hs3 ?hf3 ?hr3 ?hQ3 ?hy3 ?hS3 ?rest3
  case hi3 => rfl
  case hs3 => kernel_rfl
  case hf3 => kernel_rfl
  case hr3 => kernel_rfl
  case hQ3 => exact fun _ _ _ h => h
  case hS3 => assumption
  case hy3 =>
    refine Or.inl ⟨by rfl, ?_⟩
    intro w hSw
    try dsimp only at hSw
    go_simp <;> (with_reducible rfl)
  try simp only [Act.put, List.setIfInBounds_toArray, List.set_cons_zero, List.set_cons_succ]
  refine' wpAnyH_take (i := 6) (oi := _) (v := _) ?hi6 ?hs6 ?hf6 ?hr6 ?hQ6 ?hy6 ?hS6 ?rest6
  case hi6 => rfl
  case hs6 => kernel_rfl
  case hf6 => kernel_rfl
  case hr6 => kernel_rfl
  case hQ6 => exact fun _ _ _ h => h
  case hS6 => assumption
  case hy6 =>
    refine Or.inl ⟨by rfl, ?_⟩
    intro w hSw
    try dsimp only at hSw
    go_simp <;> (with_reducible rfl)
  try simp only [Act.put, List.setIfInBounds_toArray, List.set_cons_zero, List.set_cons_succ]
  refine' wpAnyH_take (i := 7) (oi := _) (v := _) ?hi7 ?hs7 ?hf7 ?hr7 ?hQ7 ?hy7 ?hS7 ?rest7
  case hi7 => rfl
  case hs7 => kernel_rfl
  case hf7 => kernel_rfl
  case hr7 => kernel_rfl
  case hQ7 => exact fun _ _ _ h => h
  case hS7 => assumption
  case hy7 =>
    refine Or.inl ⟨by rfl, ?_⟩
    intro w hSw
    try dsimp only at hSw
    go_simp <;> (with_reducible rfl)
  try simp only [Act.put, List.setIfInBounds_toArray, List.set_cons_zero, List.set_cons_succ]
  refine' wpAnyH_take (i := 8) (oi := _) (v := _) ?hi8 ?hs8 ?hf8 ?hr8 ?hQ8 ?hy8 ?hS8 ?rest8
  case hi8 => rfl
  case hs8 => kernel_rfl
  case hf8 => kernel_rfl
  case hr8 => kernel_rfl
  case hQ8 => exact fun _ _ _ h => h
  case hS8 => assumption
  case hy8 =>
    refine Or.inl ⟨by rfl, ?_⟩
    intro w hSw
    try dsimp only at hSw
    go_simp <;> (with_reducible rfl)
  try simp only [Act.put, List.setIfInBounds_toArray, List.set_cons_zero, List.set_cons_succ]
  refine wpAnyH_ready (rs := [4]) (by kernel_rfl) (by simp) (AllReadyH.cons rfl (fun K hK => ?_) AllReadyH.nil)
  go_simp
  go_at_call 51
  refine (HIT.out _ (HG.out.below (HI.out.below (below_drew (Below.refl _ _))).bel)).mono ?_
  rintro e w2 ⟨rfl, hb⟩
  have HJ := Aside0.mk ((HI.out.below (below_drew (Below.refl _ _))).below hb)
  have HKJ := Aside0.mk (HK.out.trans ((K9.below (below_drew (Below.refl _ _))).trans (K9.below hb)))
  have KJ := Aside0.mk ((hb.block _ (blk_lt KB.out)).trans KB.out)
  have c1 := pw_cell_below hb c1
  have c2 := pw_cell_below hb c2
  go_wp2_with fail
  refine hK.out _ _ ⟨c1, c2⟩ (fun hHeld => ?_)
  clear hK K hb
  try simp only [Act.put, List.setIfInBounds_toArray, List.set_cons_zero, List.set_cons_succ]
  refine wpAnyH_ready (rs := [5]) (by kernel_rfl) (by simp) (AllReadyH.cons rfl (fun K hK => ?_) AllReadyH.nil)
  go_simp
  go_at_call 52
  refine (query_signs.calls signsL _ rfl).mono ?_
  rintro e w3 ⟨v0, rfl, hR, hb⟩
  obtain ⟨gs, cap, rfl, cg, hgs⟩ := HSG.out _ _ _ _ hR
  have HJ2 := Aside0.mk (HJ.out.below hb)
  have HKJ2 := Aside0.mk (HKJ.out.trans (K9.below hb))
  have KJ2 := Aside0.mk ((hb.block _ (blk_lt KJ.out)).trans KJ.out)
  have HGS := Aside0.mk (show some gs ≠ v.ownBlock from fun e => by have := own_lt HJ.out.own gs e.symm; omega)
  have c1 := pw_cell_below hb c1
  have c2 := pw_cell_below hb c2
  go_wp2_with fail
  refine hK.out _ _ ⟨c1, c2⟩ (fun hHeld => ?_)
  clear hK K hb hR hgs
  have hHeld : (fun w' : World => w'.cell? ⟨b, 1, none⟩ = some (.int .i64 q.f1.f0) ∧ w'.cell? ⟨b, 2, none⟩ = some (.int .i64 q.f1.f1) ∧ w'.cell? ⟨gs, q.f1.f0.toNat, none⟩ = some (.string sg)) w3 := ⟨c1, c2, cg⟩
  refine wpAnyH_mono (S2 := (fun w' : World => w'.cell? ⟨b, 1, none⟩ = some (.int .i64 q.f1.f0) ∧ w'.cell? ⟨b, 2, none⟩ = some (.int .i64 q.f1.f1) ∧ w'.cell? ⟨gs, q.f1.f0.toNat, none⟩ = some (.string sg))) (fun w h => ⟨h.1, h.2.1⟩) _ _ _ _ ?_
  try simp only [Act.put, List.setIfInBounds_toArray, List.set_cons_zero, List.set_cons_succ]
  refine' wpAnyH_take (i := 9) (oi := _) (v := _) ?hi9 ?hs9 ?hf9 ?hr9 ?hQ9 ?hy9 ?hS9 ?rest9
  case hi9 => rfl
  case hs9 => kernel_rfl
  case hf9 => kernel_rfl
  case hr9 => kernel_rfl
  case hQ9 => exact fun _ _ _ h => h
  case hS9 => assumption
  case hy9 =>
    refine Or.inl ⟨by rfl, ?_⟩
    intro w hSw
    try dsimp only at hSw
    go_simp <;> (with_reducible rfl)
  try simp only [Act.put, List.setIfInBounds_toArray, List.set_cons_zero, List.set_cons_succ]
  refine' wpAnyH_take (i := 10) (oi := _) (v := _) ?hi10 ?hs10 ?hf10 ?hr10 ?hQ10 ?hy10 ?hS10 ?rest10
  case hi10 => rfl
  case hs10 => kernel_rfl
  case hf10 => kernel_rfl
  case hr10 => kernel_rfl
  case hQ10 => exact fun _ _ _ h => h
  case hS10 => assumption
  case hy10 =>
    refine Or.inl ⟨by rfl, ?_⟩
    intro w hSw
    try dsimp only at hSw
    go_simp <;> (with_reducible rfl)
  try simp only [Act.put, List.setIfInBounds_toArray, List.set_cons_zero, List.set_cons_succ]
  refine wpAnyH_ready (rs := [11]) (by kernel_rfl) (by simp) (AllReadyH.cons rfl (fun K hK => ?_) AllReadyH.nil)
  go_simp
  refine hK.out _ _ ?_ (fun hHeld => ?_)
  · refine ⟨?_, ?_, ?_⟩ <;> first | assumption | go_keep
  clear hK K
  try simp only [Act.put, List.setIfInBounds_toArray, List.set_cons_zero, List.set_cons_succ]
  refine wpAnyH_ready (rs := [12]) (by kernel_rfl) (by simp) (AllReadyH.cons rfl (fun K hK => ?_) AllReadyH.nil)
  refine app_step (by rfl) _ _ (by rfl) v xs [itoaB q.f1.f1, sg] 2 rfl (by omega) (by rfl) (by rfl) HJ2.out HL2.out ?_
  intro v1 w4 hI3 hK3
  have cg := (World.cell?_of_block (a := ⟨gs, q.f1.f0.toNat, none⟩) (hK3.keep gs (World.block_lt_of_cell? w3 _ cg) HGS.out)).trans cg
  have c1 := (blk_cell (hK3.blk KJ2.out (by decide)) 1).trans rfl
  have c2 := (blk_cell (hK3.blk KJ2.out (by decide)) 2).trans rfl
  refine hK.out _ _ ⟨c1, c2, cg⟩ (fun hHeld => ?_)
  have K3 := Aside0.mk (hK3.blk KJ2.out (by decide))
  have HK3 := Aside0.mk (HKJ2.out.trans hK3)
  have HI4 := Aside0.mk hI3
  clear hK K hK3 hI3
  try simp only [Act.put, List.setIfInBounds_toArray, List.set_cons_zero, List.set_cons_succ]
  refine' wpAnyH_take (i := 13) (oi := _) (v := _) ?hi13 ?hs13 ?hf13 ?hr13 ?hQ13 ?hy13 ?hS13 ?rest13
  case hi13 => rfl
  case hs13 => kernel_rfl
  case hf13 => kernel_rfl
  case hr13 => kernel_rfl
  case hQ13 => exact fun _ _ _ h => h
  case hS13 => assumption
  case hy13 =>
    refine Or.inl ⟨by rfl, ?_⟩
    intro w hSw
    try dsimp only at hSw
    go_simp <;> (with_reducible rfl)
  try simp only [Act.put, List.setIfInBounds_toArray, List.set_cons_zero, List.set_cons_succ]
  refine wpAnyH_done (by kernel_rfl) ?_ _
  clear hHeld
  have c4 := (blk_cell K3.out 4).trans rfl
  have c5 := (blk_cell K3.out 5).trans rfl
  by_cases g4 : 4 ≤ q.f1.f0
  · have d4 : decide (4 ≤ q.f1.f0) = true := decide_eq_true g4
    have hw : askWords q.f1 = [itoaB q.f1.f1, sg] := by unfold askWords; rw [if_pos g4, hsd]; rfl
    clear g4 oz o6 o0 o5
    go_wp2_with fail
    go_ret
    exact ⟨v1, rfl, by first | exact HI4.out | (rw [hw]; exact HI4.out), HK3.out⟩
  · have d4 : decide (4 ≤ q.f1.f0) = false := decide_eq_false g4
    cases hs : q.f1.f2.f2.toList.isEmpty
    · have hw : askWords q.f1 = [itoaB q.f1.f1, sg] ++ [(⟨#[39]⟩ : ByteArray) ++ q.f1.f2.f2] := by unfold askWords; rw [if_neg g4, hsd, hs]; rfl
      rw [hw] at HL
      have HL3 := Aside0.mk (bound2 HL.out : ((xs ++ [itoaB q.f1.f1, sg]).length + [(⟨#[39]⟩ : ByteArray) ++ q.f1.f2.f2].length) * 16 ≤ 140737488355328)
      clear g4 oz o6 o0 o5
      go_wp2_with (at_builtin; refine app_list (by rfl) _ _ (by rfl) v1 _ [(⟨#[39]⟩ : ByteArray) ++ q.f1.f2.f2] 1 rfl (by omega) (by rfl) (by rfl) HI4.out HL3.out ?_; intro v2 w5 hI5 hK5)
      go_ret
      exact ⟨v2, rfl, (show WS w0 w5 v2 (xs ++ askWords q.f1) from by rw [hw, ← List.append_assoc]; exact hI5), HK3.out.trans hK5⟩
    · have hw : askWords q.f1 = [itoaB q.f1.f1, sg] ++ [itoaB q.f1.f2.f1] := by unfold askWords; rw [if_neg g4, hsd, hs]; rfl
      rw [hw] at HL
      have HL3 := Aside0.mk (bound2 HL.out : ((xs ++ [itoaB q.f1.f1, sg]).length + [itoaB q.f1.f2.f1].length) * 16 ≤ 140737488355328)
      clear g4 oz o6 o0 o5
      go_wp2_with fail
      refine (HFM.out _ (HG.out.below HI4.out.bel)).mono ?_
      rintro e w5 ⟨rfl, hb⟩
      have HI5 := Aside0.mk (HI4.out.below hb)
      have HK5 := Aside0.mk (HK3.out.trans (K9.below hb))
      clear hb
      go_wp2_with (at_builtin; refine app_list (by rfl) _ _ (by rfl) v1 _ [itoaB q.f1.f2.f1] 1 rfl (by omega) (by rfl) (by rfl) HI5.out HL3.out ?_; intro v2 w6 hI6 hK6)
      go_ret
      exact ⟨v2, rfl, (show WS w0 w6 v2 (xs ++ askWords q.f1) from by rw [hw, ← List.append_assoc]; exact hI6), HK5.out.trans hK6⟩
end Go.Proofs.YtglcajijmkianaaDoor.A
