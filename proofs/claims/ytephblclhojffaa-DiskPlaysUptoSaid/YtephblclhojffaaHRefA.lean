/- The reference's disk in memory; its small calls. The reference's rows of names: where a name stands, a row without it, with it; plain. The laws' Right is the disk's right; plain. The reference's order of texts; plain. The reference's Read, Held, Names, SyncDir. The reference's row with a name more. The reference's Apply. -/
import Derived.Test.YtephblclhojffaaAx0
import Derived.Test.YtephblclhojffaaAx1
import Derived.Test.YtephblclhojffaaAx2
import Derived.Test.YtephblclhojffaaHAtO
import Derived.Test.YtephblclhojffaaHRight
import Derived.Test.YtephblclhojffaaHHeld
import Derived.Deep.RegionHeld3
import Derived.BigQuiet
namespace Go.Proofs.Ytephblclhojffaa.A
open Go.RowKit Go.Proofs.YtephblclhojffaaW.PrintWords Go.Proofs.YtephblclhojffaaW.PrintLast Go.Proofs.YtephblclhojffaaW.PrintMore
set_option linter.unusedVariables false
set_option linter.unusedSimpArgs false

structure F77 where
  f0 : ByteArray
  f1 : Int
def z77 : F77 := ⟨⟨#[]⟩, 0⟩
def k77 : Kd F77 := Kd.iso (Kd.pair Kd.string (Kd.int .i64)) (fun x : F77 => (x.f0, x.f1))
theorem k77_open {w : World} {x : F77} {cs : List Value} (h : k77.K w x cs) : cs = [.string x.f0, .int .i64 x.f1] := by
  obtain ⟨c0, c1, rfl, rfl, rfl⟩ := h
  rfl
theorem k77_openM {w : World} {base : Nat} {ok : Nat → Prop} {x : F77} {cs : List Value} (h : k77.M w base ok x cs) : cs = [.string x.f0, .int .i64 x.f1] := by
  obtain ⟨c0, c1, rfl, rfl, rfl⟩ := h
  rfl
theorem k77_mkM (w : World) (base : Nat) (ok : Nat → Prop) (x : F77) : k77.M w base ok x [.string x.f0, .int .i64 x.f1] := ⟨[.string x.f0], [.int .i64 x.f1], rfl, rfl, rfl⟩
def rd77 (xs : List F77) (i : Int) : F77 := xs.getD i.toNat z77
theorem at77 {w : World} {A : Option Addr} {n : Nat} {xs : List F77} (h : Kd.C k77 w A n xs) (i : Int) (h0 : 0 ≤ i) (h1 : i < n) : ∃ ad, A = some ad ∧ w.cell? (ad.add (i.toNat * 2)) = some (.string (rd77 xs i).f0) ∧ w.cell? ⟨(ad.add (i.toNat * 2)).block, (ad.add (i.toNat * 2)).off + 1, none⟩ = some (.int .i64 (rd77 xs i).f1) := by
  obtain ⟨ad, c, e, _, hK, hc0⟩ := Kd.C_get h z77 i h0 h1
  have hc : ∀ j u, c[j]? = some u → w.cell? (ad.add (i.toNat * 2 + j)) = some u := hc0
  obtain rfl := k77_open hK
  exact ⟨ad, e, hc 0 _ rfl, by rw [← add_field _ _ 1 (by omega)]; exact hc 1 _ rfl⟩

def negR (x : Int) : Int := if x = never then -1 else x
def f77 (p : Bs × Nat) : F77 := ⟨bsS p.1, p.2⟩
def dirS (d : Dir) : List S79 := d.map fun p => ⟨bsS p.1, (p.2 : Int)⟩
def c90 : Chg → S90
  | .mk k f => ⟨bsS k, ⟨#[]⟩, f⟩
  | .ren a b => ⟨bsS a, bsS b, 0⟩
  | .rm a => ⟨bsS a, ⟨#[]⟩, -1⟩
structure RefR (w : World) (own : Nat → Prop) (rb : Nat) (fv dv sv cv : Value) (M : DM) : Prop where
  orb : own rb
  blk : w.heap[rb]? = some (.cells #[fv, dv, sv, cv, .int .i64 M.space, .int .i64 (negR M.halt), .int .i64 (negR M.deny), .int .i64 M.calls] 75 (0, 0))
  files : Kd.R k77 77 w 0 own fv (M.files.map f77)
  dir : Kd.R k79 79 w 0 own dv (dirS M.dir)
  sdir : Kd.R k79 79 w 0 own sv (dirS M.sdir)
  chg : Kd.R k90 90 w 0 own cv (M.chg.map c90)
  lt : ∀ k, own k → k < w.heap.size
def IsRef (w : World) (own : Nat → Prop) (rb : Nat) (M : DM) : Prop := ∃ fv dv sv cv, RefR w own rb fv dv sv cv M
def WentR (w w' : World) (own : Nat → Prop) (rb : Nat) (M' : DM) : Prop := ∃ own', IsRef w' own' rb M' ∧ (∀ k, own' k → own k ∨ w.heap.size ≤ k) ∧ Only w w' own
section
variable {w w' : World} {own own' S : Nat → Prop} {rb : Nat} {fv dv sv cv : Value} {M M' : DM}
theorem RefR.kept (h : RefR w own rb fv dv sv cv M) (hk : ∀ k, own k → w'.heap[k]? = w.heap[k]?) (ho : ∀ k, own k → own' k) (hlt : ∀ k, own' k → k < w'.heap.size) : RefR w' own' rb fv dv sv cv M :=
  ⟨ho _ h.orb, (hk _ h.orb).trans h.blk, Kd.R_mono (Kd.R_move h.files hk) ho, Kd.R_mono (Kd.R_move h.dir hk) ho, Kd.R_mono (Kd.R_move h.sdir hk) ho, Kd.R_mono (Kd.R_move h.chg hk) ho, hlt⟩
theorem RefR.below (h : RefR w own rb fv dv sv cv M) (hb : Below w.heap.size w w') : RefR w' own rb fv dv sv cv M :=
  h.kept (fun k hk => hb.block k (h.lt k hk)) (fun _ h => h) (fun k hk => Nat.lt_of_lt_of_le (h.lt k hk) hb.size)
/-- Rows stay where the disk's struct is written. -/
theorem row_far {α : Type} {d : Kd α} {e : Nat} {v : Value} {xs : List α} {cells : Array Value} (h : d.R e w 0 own v xs) (hE : d.E = []) (hb : w.heap[rb]? = some (.cells cells 75 (0, 0))) (he : e ≠ 75) (hk : ∀ k, own k → k ≠ rb → w'.heap[k]? = w.heap[k]?) : d.R e w' 0 own v xs := by
  have h1 := Kd.R_types h hb (fun q hq => by rw [hE] at hq; simp at hq; rw [hq]; exact he)
  exact Kd.R_mono (Kd.R_move h1 (fun k hk' => hk k hk'.1 hk'.2)) (fun _ h => h.1)
/-- The struct's numbers are written. -/
theorem RefR.nums (h : RefR w own rb fv dv sv cv M) (hk : ∀ k, own k → k ≠ rb → w'.heap[k]? = w.heap[k]?) (hs : w.heap.size ≤ w'.heap.size) (sp ca ha de : Int)
    (hb : w'.heap[rb]? = some (.cells #[fv, dv, sv, cv, .int .i64 sp, .int .i64 (negR ha), .int .i64 (negR de), .int .i64 ca] 75 (0, 0))) : RefR w' own rb fv dv sv cv { M with space := sp, calls := ca, halt := ha, deny := de } :=
  ⟨h.orb, hb, row_far h.files rfl h.blk (by decide) hk, row_far h.dir rfl h.blk (by decide) hk, row_far h.sdir rfl h.blk (by decide) hk, row_far h.chg rfl h.blk (by decide) hk, fun k hk => Nat.lt_of_lt_of_le (h.lt k hk) hs⟩
theorem WentR.same (h : RefR w' own rb fv dv sv cv M) (e : M' = M) (h3 : Only w w' own) : WentR w w' own rb M' := ⟨own, by subst e; exact ⟨fv, dv, sv, cv, h⟩, fun _ h => .inl h, h3⟩
theorem set_other (w : World) (b o : Nat) (v : Value) {k : Nat} (hk : k ≠ b) : (w.setCell ⟨b, o, none⟩ v).heap[k]? = w.heap[k]? := Below.heap_setCell _ _ _ _ hk
end
set_option maxHeartbeats 1000000 in
theorem rcall_run (w : World) (rb : Nat) (fv dv sv cv : Value) (sp ca ha de : Int) (hc0 : 0 ≤ ca) (hc1 : ca < 4611686018427387904)
    (hb : w.heap[rb]? = some (.cells #[fv, dv, sv, cv, .int .i64 sp, .int .i64 ha, .int .i64 de, .int .i64 ca] 75 (0, 0))) :
    Calls Try.prog 64 #[.pointer (some ⟨rb, 0, none⟩)] w fun e w' => e = .returned (.int .i64 (if 0 ≤ ha ∧ ha ≤ ca then 11 else if ca = de then 9 else 0)) ∧ w' = w.setCell ⟨rb, 7, none⟩ (.int .i64 (ca + 1)) := by
  have c5 := cells_of hb 5 rfl
  have c6 := cells_of hb 6 rfl
  have c7 := cells_of hb 7 rfl
  have f7 := free_of hb 7
  clear hb
  by_cases h0 : 0 ≤ ha
  · by_cases h1 : ha ≤ ca
    · go_enter Try.func64, Try.ntmps64
      go_wp2
      go_ret
      exact ⟨by simp [h0, h1], rfl⟩
    · by_cases h2 : ca = de
      · go_enter Try.func64, Try.ntmps64
        go_wp2
        go_ret
        exact ⟨by simp [h0, h1, h2], rfl⟩
      · go_enter Try.func64, Try.ntmps64
        go_wp2
        go_ret
        exact ⟨by simp [h0, h1, h2], rfl⟩
  · by_cases h2 : ca = de
    · go_enter Try.func64, Try.ntmps64
      go_wp2
      go_ret
      exact ⟨by simp [h0, h2], rfl⟩
    · go_enter Try.func64, Try.ntmps64
      go_wp2
      go_ret
      exact ⟨by simp [h0, h2], rfl⟩
/-- The counters are counters. -/
structure Cnt (M : DM) : Prop where
  c0 : 0 ≤ M.calls
  c1 : M.calls < 1000000
  ha : 0 ≤ M.halt
  de : 0 ≤ M.deny
theorem callR {M : DM} (h : Cnt M) : (if 0 ≤ negR M.halt ∧ negR M.halt ≤ M.calls then (11 : Int) else if M.calls = negR M.deny then 9 else 0) = callE M := by
  have h0 := h.c0; have h1 := h.c1; have h2 := h.ha; have h3 := h.de
  have hn : ∀ x : Int, (negR x = -1 ∧ x = 4611686018427387904) ∨ (negR x = x ∧ x ≠ 4611686018427387904) := fun x => by
    unfold negR never
    by_cases e : x = 4611686018427387904
    · exact .inl ⟨if_pos e, e⟩
    · exact .inr ⟨if_neg e, e⟩
  have a := hn M.halt
  have b := hn M.deny
  unfold callE
  generalize negR M.halt = x at *
  generalize negR M.deny = y at *
  repeat' split
  all_goals omega
theorem Cnt.tick {M : DM} (h : Cnt M) (h1 : M.calls < 999999) : Cnt (tick M) := ⟨by have := h.c0; show 0 ≤ M.calls + 1; omega, by show M.calls + 1 < _; omega, h.ha, h.de⟩
section
variable {w w' : World} {own own' S : Nat → Prop} {rb : Nat} {fv dv sv cv : Value} {M M' : DM}
theorem num_set (h : RefR w own rb fv dv sv cv M) (j : Nat) (v : Value) : (∀ k, own k → k ≠ rb → (w.setCell ⟨rb, j, none⟩ v).heap[k]? = w.heap[k]?) ∧ w.heap.size ≤ (w.setCell ⟨rb, j, none⟩ v).heap.size ∧ Only w (w.setCell ⟨rb, j, none⟩ v) (· = rb) :=
  ⟨fun k _ hn => Below.heap_setCell _ _ _ _ hn, by simp [World.setCell], Only.setCell (S := fun k => k = rb) rfl v⟩
theorem rcall.calls (h : RefR w own rb fv dv sv cv M) (hc : Cnt M) :
    Calls Try.prog 64 #[.pointer (some ⟨rb, 0, none⟩)] w fun e w' => e = .returned (.int .i64 (callE M)) ∧ RefR w' own rb fv dv sv cv (tick M) ∧ Only w w' (· = rb) ∧ w'.heap.size = w.heap.size := by
  refine (rcall_run w rb fv dv sv cv _ _ _ _ hc.c0 (by have := hc.c1; omega) h.blk).mono ?_
  rintro e w' ⟨rfl, rfl⟩
  obtain ⟨h1, h2, h3⟩ := num_set h 7 (.int .i64 (M.calls + 1))
  exact ⟨by rw [callR hc], h.nums h1 h2 M.space (M.calls + 1) M.halt M.deny (heap_set h.blk 7 _), h3, by simp [World.setCell]⟩
set_option maxHeartbeats 1000000 in
theorem rSpace.calls (h : RefR w own rb fv dv sv cv M) (n : Int) :
    Calls Try.prog 47 #[.pointer (some ⟨rb, 0, none⟩), .int .i64 n] w fun e w' => e = .returned (.tuple #[]) ∧ RefR w' own rb fv dv sv cv (spaceF M n) ∧ Only w w' (· = rb) := by
  obtain ⟨h1, h2, h3⟩ := num_set h 4 (.int .i64 (mx0 n))
  have H := Aside0.mk (show RefR _ own rb fv dv sv cv (spaceF M n) from h.nums h1 h2 (mx0 n) M.calls M.halt M.deny (heap_set h.blk 4 _))
  have c4 := cells_of h.blk 4 rfl
  have f4 := free_of h.blk 4
  have e : max n 0 = mx0 n := by unfold mx0; split <;> omega
  clear h h1 h2
  have H3 := Aside0.mk h3
  clear h3
  go_enter Try.func47, Try.ntmps47
  go_wp2
  go_end0
  exact ⟨rfl, H.out, H3.out⟩
set_option maxHeartbeats 1000000 in
theorem rlater.calls (h : RefR w own rb fv dv sv cv M) (hc : Cnt M) (n : Int) :
    Calls Try.prog 66 #[.pointer (some ⟨rb, 0, none⟩), .int .i64 n] w fun e w' => e = .returned (.int .i64 (negR (laterF M n))) ∧ w' = w := by
  have c7 := cells_of h.blk 7 rfl
  have h0 := hc.c0; have h1 := hc.c1
  have HE : Aside0 (¬ (n < 0 ∨ 1099511627776 < n) → negR (laterF M n) = M.calls + n) := ⟨fun hn => by unfold laterF negR never; rw [if_neg hn, if_neg (by omega)]⟩
  have HF : Aside0 ((n < 0 ∨ 1099511627776 < n) → negR (laterF M n) = -1) := ⟨fun hn => by unfold laterF negR; rw [if_pos hn, if_pos rfl]⟩
  clear h hc
  by_cases h2 : n < 0
  · go_enter Try.func66, Try.ntmps66
    go_wp2
    go_ret
    exact ⟨by rw [HF.out (.inl h2)]; rfl, rfl⟩
  · by_cases h3 : 1099511627776 < n
    · go_enter Try.func66, Try.ntmps66
      go_wp2
      go_ret
      exact ⟨by rw [HF.out (.inr h3)]; rfl, rfl⟩
    · go_enter Try.func66, Try.ntmps66
      go_wp2
      go_ret
      exact ⟨by rw [HE.out (by omega)]; rfl, rfl⟩
set_option maxHeartbeats 1000000 in
theorem rStop.calls (h : RefR w own rb fv dv sv cv M) (hc : Cnt M) (n : Int) :
    Calls Try.prog 48 #[.pointer (some ⟨rb, 0, none⟩), .int .i64 n] w fun e w' => e = .returned (.tuple #[]) ∧ RefR w' own rb fv dv sv cv (stopF M n) ∧ Only w w' (· = rb) := by
  have hl := rlater.calls h hc n
  obtain ⟨h1, h2, h3⟩ := num_set h 5 (.int .i64 (negR (laterF M n)))
  have H := Aside0.mk (show RefR _ own rb fv dv sv cv (stopF M n) from h.nums h1 h2 M.space M.calls (laterF M n) M.deny (heap_set h.blk 5 _))
  have c5 := cells_of h.blk 5 rfl
  have f5 := free_of h.blk 5
  clear h h1 h2
  have H3 := Aside0.mk h3
  clear h3
  go_enter Try.func48, Try.ntmps48
  go_wp2_with fail
  refine hl.mono ?_
  rintro e w1 ⟨rfl, rfl⟩
  go_wp2
  go_end0
  exact ⟨rfl, H.out, H3.out⟩
set_option maxHeartbeats 1000000 in
theorem rRefuse.calls (h : RefR w own rb fv dv sv cv M) (hc : Cnt M) (n : Int) :
    Calls Try.prog 49 #[.pointer (some ⟨rb, 0, none⟩), .int .i64 n] w fun e w' => e = .returned (.tuple #[]) ∧ RefR w' own rb fv dv sv cv (refuseF M n) ∧ Only w w' (· = rb) := by
  have hl := rlater.calls h hc n
  obtain ⟨h1, h2, h3⟩ := num_set h 6 (.int .i64 (negR (laterF M n)))
  have H := Aside0.mk (show RefR _ own rb fv dv sv cv (refuseF M n) from h.nums h1 h2 M.space M.calls M.halt (laterF M n) (heap_set h.blk 6 _))
  have c6 := cells_of h.blk 6 rfl
  have f6 := free_of h.blk 6
  clear h h1 h2
  have H3 := Aside0.mk h3
  clear h3
  go_enter Try.func49, Try.ntmps49
  go_wp2_with fail
  refine hl.mono ?_
  rintro e w1 ⟨rfl, rfl⟩
  go_wp2
  go_end0
  exact ⟨rfl, H.out, H3.out⟩
set_option maxHeartbeats 1000000 in
theorem rNew.calls (n : Int) (w : World) : Calls Try.prog 18 #[.int .i64 n] w fun e w' => e = .returned (.pointer (some ⟨w.heap.size, 0, none⟩)) ∧ IsRef w' (· = w.heap.size) w.heap.size (newF n) ∧ Below w.heap.size w w' := by
  have e : max n 0 = mx0 n := by unfold mx0; split <;> omega
  go_enter Try.func18, Try.ntmps18
  go_wp2
  go_ret
  refine ⟨rfl, ⟨_, _, _, _, rfl, heap_alloc w _, Kd.R_nil _ _ _ _ _, Kd.R_nil _ _ _ _ _, Kd.R_nil _ _ _ _ _, Kd.R_nil _ _ _ _ _, fun k hk => by subst hk; simp⟩, (Below.refl _ w).alloc (Nat.le_refl _) _⟩
end
end Go.Proofs.Ytephblclhojffaa.A
namespace Go.Proofs.Ytephblclhojffaa.A
open Go.RowKit Go.Proofs.YtephblclhojffaaW.PrintWords Go.Proofs.YtephblclhojffaaW.PrintLast Go.Proofs.YtephblclhojffaaW.PrintMore
set_option linter.unusedVariables false
set_option linter.unusedSimpArgs false

theorem rising_del {d : Dir} (h : Rising d) (k : Bs) : Rising (dDel d k) := List.Pairwise.sublist List.filter_sublist h
theorem lt_or (a b : Bs) (h : a ≠ b) (h2 : ¬ a < b) : b < a := by
  rcases List.le_iff_lt_or_eq.1 (List.not_lt.1 h2) with h3 | h3
  · exact h3
  · exact absurd h3.symm h
theorem mem_dIns' {x p : Bs × Nat} {d : Dir} : p ∈ dIns x d ↔ p = x ∨ p ∈ d := by
  rw [(dIns_perm x d).mem_iff, List.mem_cons]
theorem rising_ins {k : Bs} {f : Nat} : ∀ {d : Dir}, Rising d → (∀ p ∈ d, p.1 ≠ k) → Rising (dIns (k, f) d)
  | [], _, _ => by simp [dIns, Rising]
  | y :: r, h, hn => by
    have h' := List.pairwise_cons.1 h
    unfold dIns
    split
    · rename_i hb
      have hlt := (before_lt _ _).1 hb
      refine List.pairwise_cons.2 ⟨fun p hp => ?_, h⟩
      rcases List.mem_cons.1 hp with rfl | hp
      · exact hlt
      · exact List.lt_trans hlt (h'.1 p hp)
    · rename_i hb
      have hnlt : ¬ k < y.1 := fun e => hb ((before_lt _ _).2 e)
      refine List.pairwise_cons.2 ⟨fun p hp => ?_, rising_ins h'.2 (fun p hp => hn p (by simp [hp]))⟩
      rcases mem_dIns'.1 hp with rfl | hp
      · exact lt_or k y.1 (fun e => hn y (by simp) e.symm) hnlt
      · exact h'.1 p hp
theorem dDel_ne {d : Dir} {k : Bs} : ∀ p ∈ dDel d k, p.1 ≠ k := fun p hp e => by
  unfold dDel at hp
  rw [List.mem_filter] at hp
  rw [e] at hp
  simp at hp
theorem rising_put {d : Dir} (h : Rising d) (k : Bs) (f : Nat) : Rising (dPut d k f) := rising_ins (rising_del h k) dDel_ne
theorem rising_app {d : Dir} (h : Rising d) (c : Chg) : Rising (c.app d) := by
  cases c with
  | mk k f => exact rising_put h k f
  | ren a b =>
    simp only [Chg.app]
    split
    · exact rising_del (rising_put h b _) a
    · exact h
  | rm a => exact rising_del h a
theorem rising_replay : ∀ (cs : List Chg) {d : Dir}, Rising d → Rising (replay d cs)
  | [], _, h => h
  | c :: r, _, h => rising_replay r (rising_app h c)

theorem dirS_len (d : Dir) : (dirS d).length = d.length := by simp [dirS]
theorem dirS_at (d : Dir) (k : Nat) : rd_T79 (dirS d) (k : Int) = ⟨bsS (d.getD k ([], 0)).1, ((d.getD k ([], 0)).2 : Int)⟩ := by
  unfold rd_T79 dirS
  rw [Int.toNat_natCast]
  by_cases h : k < d.length
  · simp [List.getD_eq_getElem?_getD, h]
  · simp [List.getD_eq_getElem?_getD, h, z79, bsS]
/-- What 'at' says of a name. -/
def AtR (d : Dir) (k : Bs) (r : Int) : Prop := (r = -1 ∧ dGet d k = none) ∨ ∃ i : Nat, r = i ∧ i < d.length ∧ (d.getD i ([], 0)).1 = k ∧ dGet d k = some (d.getD i ([], 0)).2
theorem at_go {d : Dir} (hR : Rising d) (nm : ByteArray) (hl : d.length < 9223372036854775807) : ∀ (n j : Nat), j + n = d.length → (∀ i, i < j → (d.getD i ([], 0)).1 ≠ nm.data.toList) → ∃ r, tithebarnref09_at.l0 (n + 1) (dirS d) nm (j : Int) = some r ∧ AtR d nm.data.toList r
  | 0, j, h, hno => by
    unfold tithebarnref09_at.l0
    rw [dirS_len, if_neg (by omega)]
    refine ⟨_, rfl, .inl ⟨rfl, ?_⟩⟩
    unfold dGet
    rw [Option.map_eq_none_iff, List.find?_eq_none]
    intro p hp
    obtain ⟨i, hi, rfl⟩ := List.getElem_of_mem hp
    have := hno i (by omega)
    rw [List.getD_eq_getElem?_getD, List.getElem?_eq_getElem hi] at this
    simpa using this
  | n + 1, j, h, hno => by
    unfold tithebarnref09_at.l0
    have hj : j < d.length := by omega
    have e : d.getD j ([], 0) = d[j] := by simp [hj]
    rw [dirS_len, if_pos (by omega), if_pos (by omega), dirS_at]
    by_cases hk : (d.getD j ([], 0)).1 = nm.data.toList
    · rw [if_pos (by rw [ByteArray.toList_eq, ByteArray.toList_eq, bsS_list]; exact hk)]
      refine ⟨_, rfl, .inr ⟨j, rfl, hj, hk, ?_⟩⟩
      rw [← hk, e]
      exact dGet_of_mem hR (List.getElem_mem hj)
    · rw [if_neg (by rw [ByteArray.toList_eq, ByteArray.toList_eq, bsS_list]; exact hk)]
      have hw : wrap64 ((j : Int) + 1) = ((j + 1 : Nat) : Int) := by rw [Int.natCast_add]; unfold wrap64; omega
      rw [hw]
      refine at_go hR nm hl n (j + 1) (by omega) (fun i hi => ?_)
      rcases Nat.lt_or_ge i j with h1 | h1
      · exact hno i h1
      · obtain rfl : i = j := by omega
        exact hk
theorem at_calls {d : Dir} (hR : Rising d) (nm : ByteArray) (hl : d.length < 9223372036854775807) (w : World) {own : Nat → Prop} {dv : Value} (hd : Kd.R k79 79 w 0 own dv (dirS d)) :
    Calls Try.prog 51 #[dv, .string nm] w fun e w' => ∃ r, e = .returned (.int .i64 r) ∧ AtR d nm.data.toList r ∧ Drawn0 w w' := by
  obtain ⟨A, c, rfl, hc, hC⟩ := Kd.R_reads hd
  obtain ⟨r, hr, ha⟩ := at_go hR nm hl d.length 0 (by omega) (fun i hi => absurd hi (Nat.not_lt_zero _))
  refine (tithebarnref09_at.calls _ A c (dirS d) nm r w hC hc hr).mono ?_
  rintro e w' ⟨rfl, h⟩
  exact ⟨r, rfl, ha, h⟩
theorem dDel_hit {p : Bs × Nat} {k : Bs} (h : p.1 = k) {r : Dir} : dDel (p :: r) k = dDel r k := by
  unfold dDel; rw [List.filter_cons, if_neg (by simp [h])]
theorem dDel_miss {p : Bs × Nat} {k : Bs} (h : ¬ p.1 = k) {r : Dir} : dDel (p :: r) k = p :: dDel r k := by
  unfold dDel; rw [List.filter_cons, if_pos (by simpa using h)]
theorem without_go {d : Dir} (nm : ByteArray) (hl : d.length < 1000000) : ∀ (n j : Nat) (x : List S79), j + n = d.length → x.length ≤ j → tithebarnref09_without.l0 (n + 1) (dirS d) nm x (j : Int) = some (x ++ dirS (dDel (d.drop j) nm.data.toList))
  | 0, j, x, h, hx => by
    unfold tithebarnref09_without.l0
    rw [dirS_len, if_neg (by omega), List.drop_of_length_le (by omega)]
    simp [dDel, dirS]
  | n + 1, j, x, h, hx => by
    unfold tithebarnref09_without.l0
    have hj : j < d.length := by omega
    have e : d.getD j ([], 0) = d[j] := by simp [hj]
    have hw : wrap64 ((j : Int) + 1) = ((j + 1 : Nat) : Int) := by rw [Int.natCast_add]; unfold wrap64; omega
    rw [dirS_len, if_pos (by omega), if_pos (by omega), dirS_at, hw, e, List.drop_eq_getElem_cons hj]
    by_cases hk : d[j].1 = nm.data.toList
    · rw [if_pos (by rw [ByteArray.toList_eq, ByteArray.toList_eq, bsS_list]; exact hk), without_go nm hl n (j + 1) x (by omega) (by omega), dDel_hit hk]
    · rw [if_neg (by rw [ByteArray.toList_eq, ByteArray.toList_eq, bsS_list]; exact hk), if_pos (by omega), without_go nm hl n (j + 1) _ (by omega) (by simp; omega), dDel_miss hk, List.append_assoc]
      rfl
theorem without_calls {d : Dir} (nm : ByteArray) (hl : d.length < 1000000) (w : World) {own : Nat → Prop} {dv : Value} (hd : Kd.R k79 79 w 0 own dv (dirS d)) :
    Calls Try.prog 71 #[dv, .string nm] w fun e w' => ∃ v, e = .returned v ∧ Kd.R k79 79 w' w.heap.size (fun _ => True) v (dirS (dDel d nm.data.toList)) ∧ Below w.heap.size w w' := by
  obtain ⟨A, c, rfl, hc, hC⟩ := Kd.R_reads hd
  have h := without_go nm hl d.length 0 [] (by omega) (Nat.le_refl _)
  rw [List.drop_zero, List.nil_append] at h
  refine (tithebarnref09_without.calls _ A c (dirS d) nm _ w hC hc h).mono ?_
  rintro e w' ⟨v, rfl, h1, h2⟩
  exact ⟨v, rfl, h1, h2⟩
end Go.Proofs.Ytephblclhojffaa.A
namespace Go.Proofs.Ytephblclhojffaa.A
open Go.RowKit Go.Proofs.YtephblclhojffaaW.PrintWords Go.Proofs.YtephblclhojffaaW.PrintLast Go.Proofs.YtephblclhojffaaW.PrintMore
set_option linter.unusedVariables false
set_option linter.unusedSimpArgs false

theorem bt_getD (s : ByteArray) (k : Nat) (hk : k < s.size) : bt s (k : Int) = ((s.data.toList.getD k 0).toNat : Int) := by
  unfold bt
  rw [dif_pos (by simpa using hk)]
  have hl : k < s.data.toList.length := by simpa using hk
  rw [List.getD_eq_getElem?_getD, List.getElem?_eq_getElem hl]
  simp
  rfl
theorem right_go (s : ByteArray) (hs : s.size ≤ 9223372036854775806) : ∀ (n k : Nat), k + n = s.size → FirstOk s k → tithebarnref09_Right.l0 (n + 1) s (k : Int) = some (rightB s.data.toList)
  | 0, k, hn, hF => by
    obtain rfl : k = s.size := by omega
    unfold tithebarnref09_Right.l0
    rw [if_neg (by omega)]
    have hl : s.data.toList.length = s.size := by simp
    unfold rightB
    rw [hF.all, hl, Bool.true_and]
    by_cases h1 : 1 ≤ s.size
    · rw [if_pos (by omega)]; simp [h1]; omega
    · rw [if_neg (by omega)]; simp [h1]
  | n + 1, k, hn, hF => by
    unfold tithebarnref09_Right.l0
    have hk : k < s.size := by omega
    rw [if_pos (by omega), if_pos (by omega), bt_getD s k hk]
    have ih := right_go s hs n (k + 1) (by omega)
    have hw : wrap64 ((k : Int) + 1) = ((k + 1 : Nat) : Int) := by rw [Int.natCast_add]; exact by unfold wrap64; omega
    rw [hw]
    have hri := rightC_iff (s.data.toList.getD k 0)
    have hyes : rightC (s.data.toList.getD k 0) = true → FirstOk s (k + 1) := fun h j hj => by
      rcases Nat.lt_or_ge j k with h1 | h1
      · exact hF j h1
      · obtain rfl : j = k := by omega
        exact h
    have hno : rightC (s.data.toList.getD k 0) = false → rightB s.data.toList = false := not_all hk
    generalize hc : (s.data.toList.getD k 0) = c at *
    generalize hm : c.toNat = m at *
    have Y : rightC c = true → tithebarnref09_Right.l0 (n + 1) s ((k + 1 : Nat) : Int) = some (rightB s.data.toList) := fun h => ih (hyes h)
    have Z : rightC c = false → some false = some (rightB s.data.toList) := fun h => by rw [hno h]
    have e1 : ∀ b : Bool, (decide (97 ≤ m) && decide (m ≤ 122) || decide (48 ≤ m) && decide (m ≤ 57) || decide (m = 46)) = b → rightC c = b := fun b h => hri.trans h
    split
    · split
      · split
        · exact Y (e1 _ (by simp; omega))
        · exact Z (e1 _ (by simp; omega))
      · split
        · split
          · exact Y (e1 _ (by simp; omega))
          · exact Z (e1 _ (by simp; omega))
        · exact Y (e1 _ (by simp; omega))
    · split
      · split
        · split
          · exact Y (e1 _ (by simp; omega))
          · exact Z (e1 _ (by simp; omega))
        · split
          · split
            · exact Y (e1 _ (by simp; omega))
            · exact Z (e1 _ (by simp; omega))
          · exact Y (e1 _ (by simp; omega))
      · exact Y (e1 _ (by simp; omega))
theorem right_plain (s : ByteArray) (hs : s.size ≤ 9223372036854775806) : tithebarnref09_Right.f (s.size + 1) s = some (rightB s.data.toList) := right_go s hs s.size 0 (by omega) (fun j h => absurd h (Nat.not_lt_zero _))
/-- Names next to one another. -/
theorem bytes_less (a b : List UInt8) : Op.bytesLess a b = decide (a < b) := Go.Proofs.bytesLess_eq a b
end Go.Proofs.Ytephblclhojffaa.A
namespace Go.Proofs.Ytephblclhojffaa.A
open Go.RowKit Go.Proofs.YtephblclhojffaaW.PrintWords Go.Proofs.YtephblclhojffaaW.PrintLast Go.Proofs.YtephblclhojffaaW.PrintMore
set_option linter.unusedVariables false
set_option linter.unusedSimpArgs false

theorem drop_cons {s : ByteArray} {j : Nat} (h : j < s.size) : s.data.toList.drop j = s.data.toList.getD j 0 :: s.data.toList.drop (j + 1) := by
  have hl : j < s.data.toList.length := by rw [Array.length_toList]; exact h
  rw [List.drop_eq_getElem_cons hl, List.getD_eq_getElem?_getD, List.getElem?_eq_getElem hl]
  rfl
theorem drop_nil {s : ByteArray} {j : Nat} (h : s.size ≤ j) : s.data.toList.drop j = [] := List.drop_of_length_le (by rw [Array.length_toList]; exact h)
theorem ahead_go (a b : ByteArray) (ha : a.size < 4611686018427387904) : ∀ (n j : Nat), j + n = a.size → j ≤ b.size → tithebarnref02_ahead.l0 (2 * n + 2) a b (j : Int) = some (bytesBefore (a.data.toList.drop j) (b.data.toList.drop j))
  | 0, j, h, hb => by
    have e : tithebarnref02_ahead.l0 (2 * 0 + 2) a b (j : Int) = some (decide ((a.size : Int) < (b.size : Int))) := by
      simp only [tithebarnref02_ahead.l0, tithebarnref02_ahead.j1]
      rw [if_neg (by omega), if_neg (by simp)]
    rw [e, drop_nil (show a.size ≤ j by omega)]
    rcases Nat.lt_or_ge j b.size with h1 | h1
    · rw [drop_cons h1, decide_eq_true (by omega)]; rfl
    · rw [drop_nil h1, decide_eq_false (by omega)]; rfl
  | n + 1, j, h, hb => by
    have hj : j < a.size := by omega
    have hw : wrap64 ((j : Int) + 1) = ((j + 1 : Nat) : Int) := by rw [Int.natCast_add]; unfold wrap64; omega
    have e : tithebarnref02_ahead.l0 (2 * (n + 1) + 2) a b (j : Int) = tithebarnref02_ahead.j1 (2 * n + 2 + 1) a b (j : Int) (decide ((j : Int) < (b.size : Int))) := by
      rw [show 2 * (n + 1) + 2 = (2 * n + 2 + 1) + 1 by omega]
      conv => lhs; unfold tithebarnref02_ahead.l0
      rw [if_pos (by omega)]
    rw [e, drop_cons hj]
    conv => lhs; unfold tithebarnref02_ahead.j1
    rcases Nat.lt_or_ge j b.size with h1 | h1
    · rw [if_pos (decide_eq_true (by omega)), if_pos (by omega), if_pos (by omega), if_pos (by omega), bt_getD a j hj, bt_getD b j h1, drop_cons h1, hw, ahead_go a b ha n (j + 1) (by omega) (by omega)]
      generalize a.data.toList.getD j 0 = x
      generalize b.data.toList.getD j 0 = y
      generalize a.data.toList.drop (j + 1) = r
      generalize b.data.toList.drop (j + 1) = s
      have e1 : (x < y) ↔ ((x.toNat : Int) < (y.toNat : Int)) := by rw [UInt8.lt_iff_toNat_lt]; omega
      have e2 : (x = y) ↔ ((x.toNat : Int) = (y.toNat : Int)) := by rw [← UInt8.toNat_inj]; omega
      by_cases hxy : (x.toNat : Int) = (y.toNat : Int)
      · rw [if_pos hxy]
        have := e2.2 hxy
        subst this
        simp [bytesBefore]
      · rw [if_neg hxy]
        have hne : x ≠ y := fun e => hxy (e2.1 e)
        simp only [bytesBefore]
        by_cases hl : x < y
        · simp [hl, e1.1 hl]
        · have : ¬ ((x.toNat : Int) < (y.toNat : Int)) := fun e => hl (e1.2 e)
          simp [hl, this, hne]
    · rw [if_neg (by simp; omega), drop_nil h1, decide_eq_false (by omega)]
      rfl
theorem ahead_plain (a b : ByteArray) (ha : a.size < 4611686018427387904) : tithebarnref02_Ahead.f (2 * a.size + 2 + 1) false 0 a false 0 b = some (bytesBefore a.data.toList b.data.toList) := by
  have h := ahead_go a b ha a.size 0 (by omega) (Nat.zero_le _)
  rw [List.drop_zero, List.drop_zero] at h
  have h2 : tithebarnref02_ahead.f (2 * a.size + 2) a b = some (bytesBefore a.data.toList b.data.toList) := h
  have e : tithebarnref02_Ahead.f (2 * a.size + 2 + 1) false 0 a false 0 b = (tithebarnref02_ahead.f (2 * a.size + 2) a b).bind fun t => some t := rfl
  rw [e, h2]
  rfl
theorem ahead_calls (a b : ByteArray) (ha : a.size < 4611686018427387904) (w : World) :
    Calls Try.prog 84 #[.agg #[.bool false, .int .i64 0, .string a], .agg #[.bool false, .int .i64 0, .string b]] w fun e w' => e = .returned (.bool (bytesBefore a.data.toList b.data.toList)) ∧ Below w.heap.size w w' :=
  tithebarnref02_Ahead.calls _ false 0 a false 0 b _ w (ahead_plain a b ha)
end Go.Proofs.Ytephblclhojffaa.A
namespace Go.Proofs.Ytephblclhojffaa.A
open Go.RowKit Go.Proofs.YtephblclhojffaaW.PrintWords Go.Proofs.YtephblclhojffaaW.PrintLast Go.Proofs.YtephblclhojffaaW.PrintMore
set_option linter.unusedVariables false
set_option linter.unusedSimpArgs false

section
variable {w w' : World} {own own' S : Nat → Prop} {rb : Nat} {fv dv sv cv : Value} {M M' : DM}
theorem rd77_at (M : DM) (i : Nat) : rd77 (M.files.map f77) (i : Int) = ⟨bsS (M.files.getD i ([], 0)).1, ((M.files.getD i ([], 0)).2 : Int)⟩ := by
  unfold rd77
  rw [Int.toNat_natCast]
  by_cases h : i < M.files.length
  · simp [List.getD_eq_getElem?_getD, h, f77]
  · simp [List.getD_eq_getElem?_getD, h, z77, bsS]
set_option maxRecDepth 100000 in
set_option maxHeartbeats 4000000 in
theorem rRead.calls (h : RefR w own rb fv dv sv cv M) (hR : Rising M.dir) (hv : ∀ p ∈ M.dir, p.2 < M.files.length) (hl : M.dir.length < 1000000) (hfl : M.files.length < 1000000) (nm : ByteArray) :
    Calls Try.prog 23 #[.pointer (some ⟨rb, 0, none⟩), .string nm] w fun e w' => e = .returned (.tuple #[.string (bsS (readF M nm.data.toList).1), .int .i64 (readF M nm.data.toList).2]) ∧ Drawn0 w w' := by
  have hat := at_calls hR nm (by omega) w h.dir
  obtain ⟨A0, c0, rfl, hc0, hC0⟩ := Kd.R_reads h.files
  obtain ⟨A1, c1, rfl, hc1, hC1⟩ := Kd.R_reads h.dir
  have k0 := cells_of h.blk 0 rfl
  have k1 := cells_of h.blk 1 rfl
  have HC0 := Aside0.mk hC0; have HC1 := Aside0.mk hC1
  have HV := Aside0.mk hv
  have hlf : (M.files.map f77).length = M.files.length := by simp
  have hld := dirS_len M.dir
  rw [hlf] at k0 HC0
  rw [hld] at k1 HC1 hat
  have HL := Aside0.mk hl; have HFL := Aside0.mk hfl
  obtain ⟨rs, hrs⟩ : ∃ s, s = bsS (readF M nm.data.toList).1 := ⟨_, rfl⟩
  obtain ⟨re, hre⟩ : ∃ s, s = (readF M nm.data.toList).2 := ⟨_, rfl⟩
  rw [← hrs, ← hre]
  have HRS := Aside0.mk hrs; have HRE := Aside0.mk hre
  clear hrs hre
  clear h hR hv hC0 hC1 hc0 hc1 hlf hld hl hfl
  go_enter Try.func23, Try.ntmps23
  go_wp2_with fail
  refine hat.mono ?_
  rintro e w1 ⟨r, rfl, har, hd⟩
  have HD := Aside0.mk hd
  rcases har with ⟨rfl, hg⟩ | ⟨i, rfl, hi, hn, hg⟩
  · have HG := Aside0.mk hg
    clear hg hd hat
    go_wp2
    go_ret2
    refine ⟨?_, HD.out⟩
    rw [HRS.out, HRE.out]
    unfold readF
    rw [HG.out]
    rfl
  · have hi2 := HV.out _ (dGet_mem hg)
    simp only at hi2
    have hrd : readF M nm.data.toList = ((M.files.getD (M.dir.getD i ([], 0)).2 ([], 0)).1, 0) := by unfold readF; rw [hg]
    obtain ⟨a1, e1, x1, x2⟩ := at_T79 HC1.out (i : Int) (by omega) (by omega)
    rw [dirS_at, Int.toNat_natCast] at x1 x2
    simp only at x1 x2
    obtain ⟨a0, e0, y1, y2⟩ := at77 HC0.out ((M.dir.getD i ([], 0)).2 : Int) (by omega) (by omega)
    rw [rd77_at, Int.toNat_natCast] at y1 y2
    simp only at y1 y2
    obtain ⟨nq, hnq⟩ := hd.out
    subst hnq
    subst e1 e0
    have HS : Aside0 (rs = bsS (M.files.getD (M.dir.getD i ([], 0)).2 ([], 0)).1 ∧ re = 0) := ⟨by rw [HRS.out, HRE.out, hrd]; exact ⟨rfl, rfl⟩⟩
    generalize bsS (M.files.getD (M.dir.getD i ([], 0)).2 ([], 0)).1 = fs at *
    generalize (M.dir.getD i ([], 0)).2 = q at *
    have b0 : 0 ≤ (i : Int) := by omega
    have b1 : (i : Int) < (M.dir.length : Int) := by omega
    have b2 : 0 ≤ (q : Int) := by omega
    have b3 : (q : Int) < (M.files.length : Int) := by omega
    have bl : decide ((i : Int) < 0) = false := decide_eq_false (by omega)
    clear hg hd hat hrd hn hi2 hi
    go_wp2_with fail
    go_quiet (fail)
    go_wp2
    go_ret2
    exact ⟨by rw [HS.out.1, HS.out.2]; rfl, ((Drawn0.refl _).step _).step _⟩
set_option maxRecDepth 100000 in
set_option maxHeartbeats 4000000 in
theorem rHeld.calls (h : RefR w own rb fv dv sv cv M) (hv : ∀ p ∈ M.dir, p.2 < M.files.length) (hl : M.dir.length < 1000000) (hfl : M.files.length < 1000000) (hf : Fits M 1099511627776) :
    Calls Try.prog 22 #[.pointer (some ⟨rb, 0, none⟩)] w fun e w' => e = .returned (.int .i64 (held M)) ∧ Drawn0 w w' := by
  obtain ⟨A0, c0, rfl, hc0, hC0⟩ := Kd.R_reads h.files
  obtain ⟨A1, c1, rfl, hc1, hC1⟩ := Kd.R_reads h.dir
  have k0 := cells_of h.blk 0 rfl
  have k1 := cells_of h.blk 1 rfl
  have hlf : (M.files.map f77).length = M.files.length := by simp
  have hld := dirS_len M.dir
  rw [hlf] at k0 hC0
  rw [hld] at k1 hC1
  have HC0 := Aside0.mk hC0; have HC1 := Aside0.mk hC1; have HV := Aside0.mk hv; have HF := Aside0.mk hf
  obtain ⟨L, hL⟩ : ∃ L, L = M.dir.length := ⟨_, rfl⟩
  obtain ⟨G, hG⟩ : ∃ G, G = M.files.length := ⟨_, rfl⟩
  rw [← hL] at k1 HC1 hl
  rw [← hG] at k0 HC0 hfl
  have HL := Aside0.mk hL; have HG := Aside0.mk hG
  clear h hv hf hC0 hC1 hc0 hc1 hlf hld hL hG
  go_enter Try.func22, Try.ntmps22
  go_wp2_with fail
  go_loopw [3, 4] (fun n i wr => ∃ k : Nat, k ≤ L ∧ i = .int .i64 k ∧ n = .int .i64 (heldTo M k) ∧ ∃ q, wr = w.drewN q) (fun _ i _ => L - (intOf i).toNat)
  case atStart => exact ⟨0, Nat.zero_le _, rfl, rfl, 0, rfl⟩
  case round =>
    obtain ⟨k, hk, rfl, rfl, nw, rfl⟩ := hrel
    by_cases hlt : k < L
    · have hkd : k < M.dir.length := by rw [← HL.out]; exact hlt
      have e : M.dir.getD k ([], 0) = M.dir[k] := by simp [hkd]
      have hi2 : (M.dir.getD k ([], 0)).2 < G := by rw [e, HG.out]; exact HV.out _ (List.getElem_mem hkd)
      obtain ⟨a1, e1, x1, x2⟩ := at_T79 HC1.out (k : Int) (by omega) (by omega)
      rw [dirS_at, Int.toNat_natCast] at x1 x2
      simp only at x1 x2
      obtain ⟨a0, e0, y1, y2⟩ := at77 HC0.out ((M.dir.getD k ([], 0)).2 : Int) (by omega) (by omega)
      rw [rd77_at, Int.toNat_natCast] at y1 y2
      simp only at y1 y2
      subst e1 e0
      have hs := heldTo_succ M k hkd
      rw [← e] at hs
      have hle := HF.out (M.dir.getD k ([], 0)).2
      have hb1 := heldTo_le M _ HF.out k
      have hb2 : k * 1099511627776 ≤ 1000000 * 1099511627776 := Nat.mul_le_mul_right _ (by omega)
      have hsz := bsS_size (M.files.getD (M.dir.getD k ([], 0)).2 ([], 0)).1
      rw [← hsz] at hs hle
      generalize bsS (M.files.getD (M.dir.getD k ([], 0)).2 ([], 0)).1 = fs at *
      generalize (M.dir.getD k ([], 0)).2 = q at *
      have HS := Aside0.mk hs
      have b1 : 0 ≤ (heldTo M k : Int) := by omega
      have b2 : (heldTo M k : Int) ≤ 2000000000000000000 := by omega
      have b3 : (fs.size : Int) ≤ 2000000000000000000 := by omega
      have b4 : 0 ≤ (fs.size : Int) := by omega
      have b5 : 0 ≤ (k : Int) := by omega
      have b6 : (k : Int) < (L : Int) := by omega
      have b7 : 0 ≤ (q : Int) := by omega
      have b8 : (q : Int) < (G : Int) := by omega
      have HLT := Aside0.mk hlt
      clear hs hb1 hb2 hle hsz hi2 e hkd
      go_wp2_with fail
      go_quiet (fail)
      go_wp2_with fail
      go_roundw
      case rel => exact ⟨k + 1, by have := HLT.out; omega, by go_num, by rw [HS.out]; go_num, _, rfl⟩
      case measure => simp [intOf]; have := HLT.out; omega
    · obtain rfl : k = L := by omega
      have e := Aside0.mk (show heldTo M k = held M by rw [HL.out]; exact heldTo_all M)
      go_wp2
      go_ret
      exact ⟨by rw [← e.out]; rfl, ⟨_, rfl⟩⟩
theorem RefR.sdirs (h : RefR w own rb fv dv sv cv M) (hk : ∀ k, own k → k ≠ rb → w'.heap[k]? = w.heap[k]?) (hs : w.heap.size ≤ w'.heap.size)
    (hb : w'.heap[rb]? = some (.cells #[fv, dv, dv, .slice none 0 0, .int .i64 M.space, .int .i64 (negR M.halt), .int .i64 (negR M.deny), .int .i64 M.calls] 75 (0, 0))) : RefR w' own rb fv dv dv (.slice none 0 0) { M with sdir := M.dir, chg := [] } :=
  ⟨h.orb, hb, row_far h.files rfl h.blk (by decide) hk, row_far h.dir rfl h.blk (by decide) hk, row_far h.dir rfl h.blk (by decide) hk, Kd.R_nil _ _ _ _ _, fun k hk => Nat.lt_of_lt_of_le (h.lt k hk) hs⟩
set_option maxHeartbeats 2000000 in
theorem rSyncDir.calls (h : RefR w own rb fv dv sv cv M) (hc : Cnt M) :
    Calls Try.prog 46 #[.pointer (some ⟨rb, 0, none⟩)] w fun e w' => e = .returned (.int .i64 (syncDirF M).2) ∧ WentR w w' own rb (syncDirF M).1 := by
  obtain ⟨A1, c1, rfl, -, -⟩ := Kd.R_reads h.dir
  have hcl := rcall.calls h hc
  by_cases he : callE M = 0
  · have HE : Aside0 (syncDirF M = ({ tick M with sdir := M.dir, chg := [] }, 0)) := ⟨by unfold syncDirF; rw [if_neg (by simp [he])]⟩
    rw [HE.out]
    rw [he] at hcl
    have HO := Aside0.mk h.orb
    clear h he
    go_enter Try.func46, Try.ntmps46
    go_wp2_with fail
    refine hcl.mono ?_
    rintro e w1 ⟨rfl, h1, h2, -⟩
    have k1 := cells_of h1.blk 1 rfl
    have k2 := cells_of h1.blk 2 rfl
    have k3 := cells_of h1.blk 3 rfl
    have f2 := free_of h1.blk 2
    have f3 := free_of h1.blk 3
    have s1 := heap_set h1.blk 2 (.slice A1 (dirS M.dir).length c1)
    have g3 := free_of s1 3
    have s2 := heap_set s1 3 (.slice none 0 0)
    have l3 := cells_of s1 3 rfl
    have H := Aside0.mk (h1.sdirs (w' := (w1.setCell ⟨rb, 2, none⟩ (.slice A1 (dirS M.dir).length c1)).setCell ⟨rb, 3, none⟩ (.slice none 0 0)) (fun k _ hn => (set_other _ rb 3 _ hn).trans (set_other _ rb 2 _ hn)) (by simp [World.setCell]) s2)
    have HW := Aside0.mk ((h2.mono (S' := own) (fun k _ e => e ▸ HO.out)).trans ((Only.setCell (w := w1) (S := own) (a := ⟨rb, 2, none⟩) HO.out (.slice A1 (dirS M.dir).length c1)).trans (Only.setCell (w := w1.setCell ⟨rb, 2, none⟩ (.slice A1 (dirS M.dir).length c1)) (S := own) (a := ⟨rb, 3, none⟩) HO.out (.slice none 0 0)) (fun _ _ h => h)) (fun _ _ h => h))
    clear h1 h2 s1 s2 hcl
    go_wp2
    go_ret
    exact ⟨rfl, WentR.same H.out rfl HW.out⟩
  · have HE : Aside0 (syncDirF M = (tick M, callE M)) := ⟨by unfold syncDirF; rw [if_pos he]⟩
    rw [HE.out]
    have HO := Aside0.mk h.orb
    have hb : (callE M != 0) = true := by simpa using he
    clear h he
    generalize callE M = ce at *
    go_enter Try.func46, Try.ntmps46
    go_wp2_with fail
    refine hcl.mono ?_
    rintro e w1 ⟨rfl, h1, h2, -⟩
    have H := Aside0.mk h1
    have HW := Aside0.mk (h2.mono (S' := own) (fun k _ e => e ▸ HO.out))
    clear h1 h2 hcl
    go_wp2
    go_ret
    exact ⟨rfl, WentR.same H.out rfl HW.out⟩
theorem names_take (M : DM) {k : Nat} (hk : k < M.dir.length) : (namesF M).take (k + 1) = (namesF M).take k ++ [bsS (M.dir.getD k ([], 0)).1] := by
  have hl : k < (namesF M).length := by simpa [namesF] using hk
  rw [List.take_succ_eq_append_getElem hl]
  congr 2
  simp [namesF, bsS, List.getD_eq_getElem?_getD, hk]
theorem info9r : (Try.prog.info? 9).map (fun i => (i.zero, i.size, i.bytes)) = some (some (.string ⟨#[]⟩), 1, 16) := by kernel_rfl
set_option maxRecDepth 100000 in
set_option maxHeartbeats 4000000 in
theorem rNames.calls (h : RefR w own rb fv dv sv cv M) (hl : M.dir.length < 1000000) :
    Calls Try.prog 25 #[.pointer (some ⟨rb, 0, none⟩)] w fun e w' => ∃ v, e = .returned v ∧ Kd.R Kd.string 9 w' w.heap.size (fun _ => True) v (namesF M) ∧ Below w.heap.size w w' := by
  obtain ⟨A1, c1, rfl, hc1, hC1⟩ := Kd.R_reads h.dir
  have k1 := cells_of h.blk 1 rfl
  have hld := dirS_len M.dir
  rw [hld] at k1 hC1
  have HC1 := Aside0.mk hC1
  have HK1 := Aside0.mk k1
  obtain ⟨L, hL⟩ : ∃ L, L = M.dir.length := ⟨_, rfl⟩
  rw [← hL] at k1 HC1 HK1 hl
  have HL := Aside0.mk hL
  have HB0 := Aside0.mk (Below.refl w.heap.size w)
  clear h hC1 hc1 hld hL
  go_enter Try.func25, Try.ntmps25
  go_wp2_with fail
  go_loopw [3, 4] (fun v i wr => ∃ k : Nat, k ≤ L ∧ i = .int .i64 k ∧ Aside0 (Below w.heap.size w wr) ∧ Aside0 (Kd.R Kd.string 9 wr w.heap.size (fun _ => True) v ((namesF M).take k))) (fun _ i _ => L - (intOf i).toNat)
  case atStart => exact ⟨0, Nat.zero_le _, rfl, HB0, ⟨Kd.R_nil _ _ _ _ _⟩⟩
  case round =>
    obtain ⟨k, hk, rfl, HBW, HR2⟩ := hrel
    have k1' := pw_cell_below HBW.out HK1.out
    by_cases hlt : k < L
    · have hkd : k < M.dir.length := by rw [← HL.out]; exact hlt
      obtain ⟨a1, e1, x1, x2⟩ := at_T79 (Kd.C_below HC1.out HBW.out) (k : Int) (by omega) (by omega)
      rw [dirS_at, Int.toNat_natCast] at x1 x2
      simp only at x1 x2
      subst e1
      have hsucc := names_take M hkd
      have hlen : ((namesF M).take k).length = k := by rw [List.length_take]; simp [namesF]; omega
      generalize bsS (M.dir.getD k ([], 0)).1 = nm at *
      generalize (M.dir.getD k ([], 0)).2 = q at *
      generalize (namesF M).take k = ks at *
      have NS := Aside0.mk hsucc
      have HLT := Aside0.mk hlt; have HLN := Aside0.mk hlen; have HLL := Aside0.mk hl
      have b5 : 0 ≤ (k : Int) := by omega
      have b6 : (k : Int) < (L : Int) := by omega
      clear hsucc hlen hkd k1
      go_wp2_with (first | ((with_reducible refine gate_builtin (b := .append) (xs := #[.tmp 14, .tmp 23]) rfl ?_); at_builtin; refine Kd.R_append Kd.string (w0 := w) w.heap.size rfl (.tmp 14) (.tmp 23) 33 9 (.string ⟨#[]⟩) 16 rfl Try.underlying33 info9r rfl (by decide) (by omega) _ ks nm [.string nm] (fun _ => True) (fun _ => False) rfl rfl ?aP (fun _ hk => hk.elim) ?aF ?aO ?aB ?aS ?aL ?_; (case aP => exact rfl); (case aB => exact (by repeat (first | (with_reducible first | exact HBW.out | apply below_alloc | apply pw_below_drewN | apply below_drew1) | exact HBW.out))); (case aF => exact (fun _ _ => trivial)); (case aO => exact (by (with_reducible repeat (first | apply Kd.R_alloc | apply Kd.R_drewN | apply Kd.R_drew)); exact HR2.out)); (case aS => exact (below_size (by repeat (first | (with_reducible first | exact HBW.out | apply below_alloc | apply pw_below_drewN | apply below_drew1) | exact HBW.out)))); (case aL => have := HLN.out; have := HLT.out; have := HLL.out; omega); intro v114 w8 ho hb hg hat; rw [← NS.out] at ho; have n0_ := Aside0.mk hb; have n1_ := Aside0.mk ho; clear ho hb hg hat))
      go_roundw
      case rel => exact ⟨k + 1, by have := HLT.out; omega, by go_num, n0_, n1_⟩
      case measure => simp [intOf]; have := HLT.out; omega
    · obtain rfl : k = L := by omega
      have e := Aside0.mk (show (namesF M).take k = namesF M by rw [HL.out]; exact List.take_of_length_le (by simp [namesF]))
      go_wp2
      go_ret
      exact ⟨_, rfl, by have h := HR2.out; rw [e.out] at h; exact h, HBW.out⟩
end
end Go.Proofs.Ytephblclhojffaa.A
namespace Go.Proofs.Ytephblclhojffaa.A
open Go.RowKit Go.Proofs.YtephblclhojffaaW.PrintWords Go.Proofs.YtephblclhojffaaW.PrintLast Go.Proofs.YtephblclhojffaaW.PrintMore
set_option linter.unusedVariables false
set_option linter.unusedSimpArgs false

theorem before_asymm {a b : Bs} (h : bytesBefore a b = true) : bytesBefore b a = false := by
  cases hb : bytesBefore b a with
  | false => rfl
  | true => exact absurd ((before_lt _ _).1 hb) (List.lt_asymm ((before_lt _ _).1 h))
theorem ins_split {k : Bs} {f : Nat} : ∀ (d : Dir) (i : Nat), i ≤ d.length → (∀ j, j < i → bytesBefore (d.getD j ([], 0)).1 k = true) → (i = d.length ∨ bytesBefore (d.getD i ([], 0)).1 k = false) → (∀ p ∈ d, p.1 ≠ k) → dIns (k, f) d = d.take i ++ (k, f) :: d.drop i
  | [], i, hi, _, _, _ => by
    obtain rfl : i = 0 := by simpa using hi
    rfl
  | y :: r, 0, _, _, h, hn => by
    have h1 : bytesBefore y.1 k = false := by
      rcases h with h | h
      · simp at h
      · simpa using h
    have h2 : bytesBefore k y.1 = true := (before_lt _ _).2 (lt_or y.1 k (hn y (by simp)) (fun e => by rw [(before_lt _ _).2 e] at h1; cases h1))
    unfold dIns
    rw [if_pos h2]
    rfl
  | y :: r, i + 1, hi, hb, h, hn => by
    have h0 : bytesBefore y.1 k = true := by simpa using hb 0 (by omega)
    have ih := ins_split (f := f) r i (by simpa using hi) (fun j hj => by simpa using hb (j + 1) (by omega)) (h.imp (fun e => by simpa using e) (fun e => by simpa using e)) (fun p hp => hn p (by simp [hp]))
    unfold dIns
    rw [if_neg (by rw [before_asymm h0]; simp), ih]
    rfl
theorem AB_alloc {w W : World} {o : Obj} (h : Aside0 (Below w.heap.size w W)) : Aside0 (Below w.heap.size w (W.alloc o)) := ⟨h.out.alloc h.out.size o⟩
theorem sz79 (W : World) : (sizeOf 79).run Try.prog W = .ok 2 W := by kernel_rfl
theorem el72 : Try.prog.elem 72 = 79 := by kernel_rfl
theorem add02 (A : Option Addr) : A.map (·.add (0 * 2)) = A := by
  cases A with
  | none => rfl
  | some a => simp [Addr.add]
theorem cut72h (A : Option Addr) (len cap n : Nat) (hn : n ≤ cap) (W : World) : (Instr.slice 72 (.slice A len cap) none (some (.int .i64 (n : Int))) none).run Try.prog W = .ok (.slice A n cap) W := by
  have hu : Try.prog.underlying 72 = some (.slice (Try.prog.elem 72)) := by rw [el72]; exact Try.underlying72
  have h := run_slice_h (P := Try.prog) W 72 A len cap hu .i64 (n : Int) (by omega) (by omega)
  rw [h, el72, sz79]
  simp only [Result.andThen, sliced, Int.toNat_natCast, add02, Nat.sub_zero, ite_self]
theorem cut72l (A : Option Addr) (len cap n : Nat) (hn : n ≤ len) (hl : len ≤ cap) (W : World) : (Instr.slice 72 (.slice A len cap) (some (.int .i64 (n : Int))) none none).run Try.prog W = .ok (.slice (if cap = n then A else A.map (·.add (n * 2))) (len - n) (cap - n)) W := by
  have hu : Try.prog.underlying 72 = some (.slice (Try.prog.elem 72)) := by rw [el72]; exact Try.underlying72
  have h := run_slice_l (P := Try.prog) W 72 A len cap hu .i64 (n : Int) (by omega) (by omega)
  rw [h, el72, sz79]
  simp only [Result.andThen, sliced, Int.toNat_natCast]
theorem C_drop {α : Type} {d : Kd α} {w : World} {A : Option Addr} {n c : Nat} {l : List α} (h : Kd.C d w A n l) (hc : n ≤ c) (k : Nat) (hk : k ≤ n) : Kd.C d w (if c = k then A else A.map (·.add (k * d.sz))) (n - k) (l.drop k) := by
  obtain ⟨h1, h2, h3⟩ := h
  refine ⟨by rw [List.length_drop, h1], by omega, fun hp => ?_⟩
  obtain ⟨ad, e, hx⟩ := h3 (by omega)
  rw [if_neg (by omega), e]
  refine ⟨_, rfl, fun j p hj => ?_⟩
  rw [List.getElem?_drop] at hj
  obtain ⟨cs, a1, a2, a3⟩ := hx (k + j) p hj
  refine ⟨cs, a1, a2, fun i u hu => ?_⟩
  have := a3 i u hu
  have e2 : (ad.add (k * d.sz)).add (j * d.sz + i) = ad.add ((k + j) * d.sz + i) := by
    rw [Go.Addr.add_add]
    congr 1
    rw [Nat.add_mul]
    omega
  rw [e2]
  exact this
theorem C_takeN {α : Type} {d : Kd α} {w : World} {A : Option Addr} {n : Nat} {l : List α} (h : Kd.C d w A n l) (k : Nat) (hk : k ≤ n) : Kd.C d w A k (l.take k) := by
  obtain ⟨h1, h2, h3⟩ := h
  refine ⟨by rw [List.length_take]; omega, by omega, fun hp => ?_⟩
  obtain ⟨ad, e, hc⟩ := h3 (by omega)
  refine ⟨ad, e, fun j p hj => hc j p ?_⟩
  rw [List.getElem?_take] at hj
  split at hj
  · exact hj
  · simp at hj
theorem one79 {W : World} {b : Nat} {x : S79} (hb : W.heap[b]? = some (.cells #[.string x.f0, .int .i64 x.f1] 79 (0, 0))) : Kd.C k79 W (some ⟨b, 0, none⟩) 1 [x] := by
  refine ⟨rfl, by simp, fun _ => ⟨_, rfl, fun j p hj => ?_⟩⟩
  cases j with
  | zero =>
    have hp : x = p := by simpa using hj
    subst hp
    refine ⟨_, rfl, k79_mk W x, fun i u hu => ?_⟩
    have := cells_of hb i (v := u) (by simpa using hu)
    rw [add_plain, Nat.zero_mul, Nat.zero_add]
    exact this
  | succ j => simp at hj
theorem k79_KM {W W' : World} {base : Nat} {ok : Nat → Prop} (x : S79) (cs : List Value) (h : k79.K W x cs) : k79.M W' base ok x cs := by
  obtain rfl := k79_open h
  exact k79_mkM W' base ok x
theorem dirS_mid (d : Dir) (k : Nat) (nm : ByteArray) (f : Nat) : dirS (d.take k ++ (nm.data.toList, f) :: d.drop k) = [] ++ (dirS d).take k ++ [(⟨nm, (f : Int)⟩ : S79)] ++ (dirS d).drop k := by
  simp [dirS, bsS_back, List.map_take, List.map_drop]
set_option maxRecDepth 100000 in
set_option maxHeartbeats 8000000 in
theorem rwith.calls {d : Dir} (hl : d.length < 100000) (nm : ByteArray) (hs : nm.size < 4611686018427387904) (hds : ∀ p ∈ d, p.1.length < 4611686018427387904) (f : Nat) (w : World) {own : Nat → Prop} {dv : Value} (hd : Kd.R k79 79 w 0 own dv (dirS d)) :
    Calls Try.prog 72 #[dv, .agg #[.string nm, .int .i64 f]] w fun e w' => ∃ v, e = .returned v ∧ Kd.R k79 79 w' w.heap.size (fun _ => True) v (dirS (dPut d nm.data.toList f)) ∧ Below w.heap.size w w' := by
  have hu79 := Try.underlying79
  have hb0 : Below w.heap.size w (w.alloc (.cells #[.string nm, .int .i64 f] 79 (0, 0))) := (Below.refl _ w).alloc (Nat.le_refl _) _
  have hbx := heap_alloc w (.cells #[.string nm, .int .i64 f] 79 (0, 0))
  have hsz : (w.alloc (.cells #[.string nm, .int .i64 f] 79 (0, 0))).heap.size = w.heap.size + 1 := by simp
  have hwo := without_calls nm (by omega) _ (Kd.R_below hd hb0)
  obtain ⟨A, c, rfl, hc, -⟩ := Kd.R_reads hd
  have HB0 := Aside0.mk hb0; have HBX := Aside0.mk hbx; have HSZ := Aside0.mk hsz
  have hn1 : ∀ p ∈ dDel d nm.data.toList, p.1 ≠ nm.data.toList := dDel_ne
  have hd1 : ∀ p ∈ dDel d nm.data.toList, p.1.length < 4611686018427387904 := fun p hp => hds p (List.filter_sublist.subset hp)
  have hl1 : (dDel d nm.data.toList).length < 100000 := Nat.lt_of_le_of_lt (List.length_filter_le _ _) hl
  have HP : Aside0 (dPut d nm.data.toList f = dIns (nm.data.toList, f) (dDel d nm.data.toList)) := ⟨rfl⟩
  rw [HP.out]
  generalize dDel d nm.data.toList = d1 at *
  have HN1 := Aside0.mk hn1; have HD1 := Aside0.mk hd1
  have y0 := cells_of hbx 0 rfl
  have y1 := cells_of hbx 1 rfl
  clear hb0 hbx hsz hd hc hl hds hn1 hd1 HP
  go_enter Try.func72, Try.ntmps72
  go_wp2_with fail
  generalize w.alloc (.cells #[.string nm, .int .i64 f] 79 (0, 0)) = w0 at *
  refine hwo.mono ?_
  rintro e w1 ⟨v1, rfl, hr1, hb1⟩
  obtain ⟨A1, c1, rfl, hc1, hC1⟩ := Kd.R_reads hr1
  rw [dirS_len] at hC1 hc1 ⊢
  have HC1 := Aside0.mk hC1; have HB1 := Aside0.mk hb1; have HCC := Aside0.mk hc1
  obtain ⟨L, hL⟩ : ∃ L, L = d1.length := ⟨_, rfl⟩
  rw [← hL] at HC1 HCC hl1 ⊢
  have HL := Aside0.mk hL
  have HX : Aside0 (∀ W, Below w1.heap.size w1 W → W.cell? ⟨w.heap.size, 0, none⟩ = some (.string nm) ∧ W.cell? ⟨w.heap.size, 1, none⟩ = some (.int .i64 f)) := ⟨fun W hb => ⟨pw_cell_below (hb1.trans (hb.mono hb1.size)) y0, pw_cell_below (hb1.trans (hb.mono hb1.size)) y1⟩⟩
  have HBW0 := Aside0.mk (Below.refl w1.heap.size w1)
  clear hwo hr1 hC1 hc1 hL hb1 y0 y1
  go_wp2_with fail
  go_loopw [5] (fun i wr => ∃ k : Nat, k ≤ L ∧ i = .int .i64 k ∧ Aside0 (Below w1.heap.size w1 wr) ∧ Aside0 (∀ j, j < k → bytesBefore (d1.getD j ([], 0)).1 nm.data.toList = true)) (fun i _ => L - (intOf i).toNat)
  case atStart => exact ⟨0, Nat.zero_le _, rfl, HBW0, ⟨fun j hj => absurd hj (Nat.not_lt_zero _)⟩⟩
  case round =>
    clear HBW0
    obtain ⟨k, hk, rfl, HBW, HJ⟩ := hrel
    by_cases hlt : k < L
    · have hkd : k < d1.length := by rw [← HL.out]; exact hlt
      have hmem : d1.getD k ([], 0) ∈ d1 := by rw [List.getD_eq_getElem?_getD, List.getElem?_eq_getElem hkd]; exact List.getElem_mem hkd
      obtain ⟨a1, e1, x1, x2⟩ := at_T79 (Kd.C_below HC1.out HBW.out) (k : Int) (by omega) (by omega)
      rw [dirS_at, Int.toNat_natCast] at x1 x2
      simp only at x1 x2
      subst e1
      obtain ⟨z0, z1⟩ := HX.out wr HBW.out
      have hah := fun W => ahead_calls (bsS (d1.getD k ([], 0)).1) nm (by rw [bsS_size]; exact HD1.out _ hmem) W
      simp only [bsS_list] at hah
      obtain ⟨bb, hb0⟩ : ∃ b, b = bytesBefore (d1.getD k ([], 0)).1 nm.data.toList := ⟨_, rfl⟩
      rw [← hb0] at hah
      have HAH := Aside0.mk hah
      have HKB := Aside0.mk hb0
      clear hah hmem hkd hb0
      generalize bsS (d1.getD k ([], 0)).1 = kn at *
      generalize (d1.getD k ([], 0)).2 = kq at *
      have hd0 : decide ((k : Int) < (L : Int)) = true := decide_eq_true (by omega)
      have b5 : 0 ≤ (k : Int) := by omega
      have b6 : (k : Int) < (L : Int) := by omega
      have HLT := Aside0.mk hlt
      have HZ := Aside0.mk (Below.refl wr.heap.size wr)
      go_wp2_with fail
      go_region_held3 (fun w' => w'.cell? (a1.add (k * 2)) = some (.string kn) ∧ w'.cell? ⟨w.heap.size, 0, none⟩ = some (.string nm) ∧ Aside0 (Below wr.heap.size wr w'))
        ((repeat' apply And.intro) <;> (first | assumption | exact AB_drew (by assumption) | exact pw_cell_below HB2.out (by assumption) | exact HB2 | go_keep))
        (first | (go_at_call 84; refine (HAH.out _).mono ?_; rintro e w2 ⟨rfl, hb'⟩; (have HB2 := Aside0.mk ((below_drew HZ.out).trans (hb'.mono ((below_drew HZ.out).size)))); clear hb'))
      have HBN := Aside0.mk (HBW.out.trans (HB2.out.mono HBW.out.size))
      clear hd0 b5 b6 x1 x2 z0 z1 HZ
      cases hbb : bb with
      | true =>
        have HJ' : Aside0 (∀ j, j < k + 1 → bytesBefore (d1.getD j ([], 0)).1 nm.data.toList = true) := ⟨fun j hj => by
          rcases Nat.lt_or_ge j k with h1 | h1
          · exact HJ.out j h1
          · obtain rfl : j = k := by omega
            exact HKB.out.symm.trans hbb⟩
        subst hbb
        go_wp2_with fail
        go_roundw
        case rel => exact ⟨k + 1, by have := HLT.out; omega, by go_num, HBN, HJ'⟩
        case measure => simp [intOf]; have := HLT.out; omega
      | false =>
        subst hbb
        go_wp2_with fail
        have HBT := HBN
        have HEX : k = d1.length ∨ bytesBefore (d1.getD k ([], 0)).1 nm.data.toList = false := .inr (HKB.out.symm)
        obtain ⟨W0, hW0⟩ : ∃ W0, W0 = w2 := ⟨_, rfl⟩
        rw [← hW0] at HBT ⊢
        have hkL : k ≤ L := Nat.le_of_lt HLT.out
        have hcc := HCC.out
        have cu1 := cut72h (some a1) L c1 k (by omega)
        have cu2 := cut72l (some a1) L c1 k hkL hcc
        obtain ⟨m, hm⟩ : ∃ m, m = L - k := ⟨_, rfl⟩
        obtain ⟨c2, hc2⟩ : ∃ c2, c2 = c1 - k := ⟨_, rfl⟩
        rw [← hm, ← hc2] at cu2
        obtain ⟨A2, hA2⟩ : ∃ A2, A2 = (if c1 = k then (some a1) else (some a1).map (·.add (k * 2))) := ⟨_, rfl⟩
        rw [← hA2] at cu2
        have HCT := Aside0.mk (C_takeN HC1.out k hkL)
        have HCD : Aside0 (Kd.C k79 w1 A2 m ((dirS d1).drop k)) := ⟨by rw [hA2, hm]; exact C_drop HC1.out hcc k hkL⟩
        have HSP := Aside0.mk (ins_split (f := f) d1 k (by rw [← HL.out]; exact hkL) HJ.out HEX HN1.out)
        obtain ⟨z0, z1⟩ := HX.out W0 HBT.out
        have HBZ := Aside0.mk (Below.refl W0.heap.size W0)
        have HB3 := Aside0.mk (below_drew HBZ.out)
        have HLL := Aside0.mk hl1; have HKL := Aside0.mk hkL
        have q0 : 0 ≤ (k : Int) := by omega
        have q1 : (k : Int) ≤ (L : Int) := by omega
        have q2 : (k : Int) ≤ (c1 : Int) := by omega
        have HM := Aside0.mk hm
        clear hA2 hW0 hcc hm hc2
        go_region_held3 (fun w' => w'.cell? ⟨w.heap.size, 0, none⟩ = some (.string nm) ∧ w'.cell? ⟨w.heap.size, 1, none⟩ = some (.int .i64 f) ∧ Aside0 (Below W0.heap.size W0 w'))
          ((repeat' apply And.intro) <;> (first | assumption | exact AB_drew (by assumption) | exact pw_cell_below HB3.out (by assumption) | exact HB3 | exact AB_alloc HB3 | go_keep))
          (first
            | (refine Kd.R_append_rows_step k79 (Rr := k79.K _) (w0 := W0) W0.heap.size (by rfl) (.const (.slice none 0 0)) (.tmp 30) 72 79 (.agg #[(.string ⟨#[]⟩), (.int .i64 0)]) 24 rfl Try.underlying72 info79 rfl (by decide) (by omega) (.slice none 0 0) [] ((dirS d1).take k) (some a1) k c1 (fun _ => True) (fun _ => False) rfl rfl (Kd.R_nil _ _ _ _ _) (Kd.C_below HCT.out (HBT.out.trans (Below.mono (by first | exact HB3.out | exact HB3.out.alloc HB3.out.size _) HBT.out.size))) (fun x cs h => k79_KM x cs h) (fun _ h => h.elim) (fun _ _ => trivial) (by first | exact HB3.out | exact HB3.out.alloc HB3.out.size _) (Below.size (by first | exact HB3.out | exact HB3.out.alloc HB3.out.size _)) (by simp only [List.length_nil]; have := HLL.out; have := HKL.out; omega) ?_; intro v2 w3 hr2 hb3 hg3 _; (have HR2 := Aside0.mk hr2); (have HG3 := Aside0.mk hg3); clear HB3; (have HB3 := Aside0.mk hb3); clear hr2 hb3 hg3)
            | (refine Kd.R_append_step k79 (w0 := W0) W0.heap.size (by rfl) (.tmp 31) (.tmp 33) 72 79 (.agg #[(.string ⟨#[]⟩), (.int .i64 0)]) 24 rfl Try.underlying72 info79 rfl (by decide) (by omega) v2 _ (⟨nm, (f : Int)⟩ : S79) [.string nm, .int .i64 (f : Int)] (fun _ => True) (fun _ => False) rfl rfl (k79_mkM _ _ _ _) (fun _ h => h.elim) (fun _ _ => trivial) HR2.out HB3.out HB3.out.size (by simp only [List.nil_append, List.length_take]; have := HLL.out; have := HKL.out; omega) ?_; intro v4 w4 hr4 hb4 hg4 _; (have HR4 := Aside0.mk hr4); clear HB3 HR2; (have HB3 := Aside0.mk hb4); clear hr4 hb4 hg4)
            | (refine Kd.R_append_rows_step k79 (Rr := k79.K _) (w0 := W0) W0.heap.size (by rfl) (.tmp 31) (.tmp 33) 72 79 (.agg #[(.string ⟨#[]⟩), (.int .i64 0)]) 24 rfl Try.underlying72 info79 rfl (by decide) (by omega) v2 _ [(⟨nm, (f : Int)⟩ : S79)] (some ⟨W0.heap.size, 0, none⟩) 1 1 (fun _ => True) (fun _ => False) rfl rfl HR2.out (one79 ((HG3.out.block _ (by simp) (by simp [Value.ownBlock])).trans (heap_alloc W0.drew _))) (fun x cs h => k79_KM x cs h) (fun _ h => h.elim) (fun _ _ => trivial) HB3.out HB3.out.size (by simp only [List.nil_append, List.length_take]; have := HLL.out; have := HKL.out; omega) ?_; intro v4 w4 hr4 hb4 hg4 _; (have HR4 := Aside0.mk hr4); clear HB3 HR2; (have HB3 := Aside0.mk hb4); clear hr4 hb4 hg4)
            | (refine Kd.R_append_rows_step k79 (Rr := k79.K _) (w0 := W0) W0.heap.size (by rfl) (.tmp 34) (.tmp 37) 72 79 (.agg #[(.string ⟨#[]⟩), (.int .i64 0)]) 24 rfl Try.underlying72 info79 rfl (by decide) (by omega) v4 _ ((dirS d1).drop k) A2 m c2 (fun _ => True) (fun _ => False) rfl rfl HR4.out (Kd.C_below HCD.out (HBT.out.trans (HB3.out.mono HBT.out.size))) (fun x cs h => k79_KM x cs h) (fun _ h => h.elim) (fun _ _ => trivial) HB3.out HB3.out.size (by simp only [List.nil_append, List.length_append, List.length_take, List.length_singleton]; have := HLL.out; have := HKL.out; have := HM.out; omega) ?_; intro v5 w5 hr5 hb5 hg5 _; (have HR5 := Aside0.mk hr5); clear HB3 HR4; (have HB3 := Aside0.mk hb5); clear hr5 hb5 hg5))
        all_goals (
          have s1 := HB0.out.size
          have s2 := HB1.out.size
          have s3 := HBT.out.size
          have s4 := Nat.le_trans s1 (Nat.le_trans s2 s3)
          have HRF : Aside0 (Kd.R k79 79 w5 w.heap.size (fun _ => True) v5 (dirS (dIns (nm.data.toList, f) d1))) := ⟨by
            rw [HSP.out, dirS_mid]
            exact Kd.R_lower HR5.out s4⟩
          have HBF := Aside0.mk (((HB0.out.trans (HB1.out.mono s1)).trans (HBT.out.mono (Nat.le_trans s1 s2))).trans (HB3.out.mono s4))
          clear s1 s2 s3 s4 cu1 cu2 z0 z1 HR5
          go_wp2_with fail
          go_ret
          exact ⟨v5, rfl, HRF.out, HBF.out⟩)
    · obtain rfl : k = L := by omega
      have hd0 : decide ((k : Int) < (k : Int)) = false := decide_eq_false (by omega)
      go_wp2_with fail
      go_quiet (fail)
      go_wp2_with fail
      have HBT := Aside0.mk (HBW.out.trans (below_drewN (Below.refl wr.heap.size wr) nq |>.mono HBW.out.size))
      have HEX : k = d1.length ∨ bytesBefore (d1.getD k ([], 0)).1 nm.data.toList = false := .inl HL.out
      obtain ⟨W0, hW0⟩ : ∃ W0, W0 = wr.drewN nq := ⟨_, rfl⟩
      rw [← hW0] at HBT ⊢
      have hkL : k ≤ k := Nat.le_refl _
      have hcc := HCC.out
      have cu1 := cut72h A1 k c1 k (by omega)
      have cu2 := cut72l A1 k c1 k hkL hcc
      obtain ⟨m, hm⟩ : ∃ m, m = k - k := ⟨_, rfl⟩
      obtain ⟨c2, hc2⟩ : ∃ c2, c2 = c1 - k := ⟨_, rfl⟩
      rw [← hm, ← hc2] at cu2
      obtain ⟨A2, hA2⟩ : ∃ A2, A2 = (if c1 = k then A1 else A1.map (·.add (k * 2))) := ⟨_, rfl⟩
      rw [← hA2] at cu2
      have HCT := Aside0.mk (C_takeN HC1.out k hkL)
      have HCD : Aside0 (Kd.C k79 w1 A2 m ((dirS d1).drop k)) := ⟨by rw [hA2, hm]; exact C_drop HC1.out hcc k hkL⟩
      have HSP := Aside0.mk (ins_split (f := f) d1 k (by rw [← HL.out]; exact hkL) HJ.out HEX HN1.out)
      obtain ⟨z0, z1⟩ := HX.out W0 HBT.out
      have HBZ := Aside0.mk (Below.refl W0.heap.size W0)
      have HB3 := Aside0.mk (below_drew HBZ.out)
      have HLL := Aside0.mk hl1; have HKL := Aside0.mk hkL
      have q0 : 0 ≤ (k : Int) := by omega
      have q1 : (k : Int) ≤ (k : Int) := by omega
      have q2 : (k : Int) ≤ (c1 : Int) := by omega
      have HM := Aside0.mk hm
      clear hA2 hW0 hcc hm hc2
      go_region_held3 (fun w' => w'.cell? ⟨w.heap.size, 0, none⟩ = some (.string nm) ∧ w'.cell? ⟨w.heap.size, 1, none⟩ = some (.int .i64 f) ∧ Aside0 (Below W0.heap.size W0 w'))
        ((repeat' apply And.intro) <;> (first | assumption | exact AB_drew (by assumption) | exact pw_cell_below HB3.out (by assumption) | exact HB3 | exact AB_alloc HB3 | go_keep))
        (first
          | (refine Kd.R_append_rows_step k79 (Rr := k79.K _) (w0 := W0) W0.heap.size (by rfl) (.const (.slice none 0 0)) (.tmp 30) 72 79 (.agg #[(.string ⟨#[]⟩), (.int .i64 0)]) 24 rfl Try.underlying72 info79 rfl (by decide) (by omega) (.slice none 0 0) [] ((dirS d1).take k) A1 k c1 (fun _ => True) (fun _ => False) rfl rfl (Kd.R_nil _ _ _ _ _) (Kd.C_below HCT.out (HBT.out.trans (Below.mono (by first | exact HB3.out | exact HB3.out.alloc HB3.out.size _) HBT.out.size))) (fun x cs h => k79_KM x cs h) (fun _ h => h.elim) (fun _ _ => trivial) (by first | exact HB3.out | exact HB3.out.alloc HB3.out.size _) (Below.size (by first | exact HB3.out | exact HB3.out.alloc HB3.out.size _)) (by simp only [List.length_nil]; have := HLL.out; have := HKL.out; omega) ?_; intro v2 w3 hr2 hb3 hg3 _; (have HR2 := Aside0.mk hr2); (have HG3 := Aside0.mk hg3); clear HB3; (have HB3 := Aside0.mk hb3); clear hr2 hb3 hg3)
          | (refine Kd.R_append_step k79 (w0 := W0) W0.heap.size (by rfl) (.tmp 31) (.tmp 33) 72 79 (.agg #[(.string ⟨#[]⟩), (.int .i64 0)]) 24 rfl Try.underlying72 info79 rfl (by decide) (by omega) v2 _ (⟨nm, (f : Int)⟩ : S79) [.string nm, .int .i64 (f : Int)] (fun _ => True) (fun _ => False) rfl rfl (k79_mkM _ _ _ _) (fun _ h => h.elim) (fun _ _ => trivial) HR2.out HB3.out HB3.out.size (by simp only [List.nil_append, List.length_take]; have := HLL.out; have := HKL.out; omega) ?_; intro v4 w4 hr4 hb4 hg4 _; (have HR4 := Aside0.mk hr4); clear HB3 HR2; (have HB3 := Aside0.mk hb4); clear hr4 hb4 hg4)
          | (refine Kd.R_append_rows_step k79 (Rr := k79.K _) (w0 := W0) W0.heap.size (by rfl) (.tmp 31) (.tmp 33) 72 79 (.agg #[(.string ⟨#[]⟩), (.int .i64 0)]) 24 rfl Try.underlying72 info79 rfl (by decide) (by omega) v2 _ [(⟨nm, (f : Int)⟩ : S79)] (some ⟨W0.heap.size, 0, none⟩) 1 1 (fun _ => True) (fun _ => False) rfl rfl HR2.out (one79 ((HG3.out.block _ (by simp) (by simp [Value.ownBlock])).trans (heap_alloc W0.drew _))) (fun x cs h => k79_KM x cs h) (fun _ h => h.elim) (fun _ _ => trivial) HB3.out HB3.out.size (by simp only [List.nil_append, List.length_take]; have := HLL.out; have := HKL.out; omega) ?_; intro v4 w4 hr4 hb4 hg4 _; (have HR4 := Aside0.mk hr4); clear HB3 HR2; (have HB3 := Aside0.mk hb4); clear hr4 hb4 hg4)
          | (refine Kd.R_append_rows_step k79 (Rr := k79.K _) (w0 := W0) W0.heap.size (by rfl) (.tmp 34) (.tmp 37) 72 79 (.agg #[(.string ⟨#[]⟩), (.int .i64 0)]) 24 rfl Try.underlying72 info79 rfl (by decide) (by omega) v4 _ ((dirS d1).drop k) A2 m c2 (fun _ => True) (fun _ => False) rfl rfl HR4.out (Kd.C_below HCD.out (HBT.out.trans (HB3.out.mono HBT.out.size))) (fun x cs h => k79_KM x cs h) (fun _ h => h.elim) (fun _ _ => trivial) HB3.out HB3.out.size (by simp only [List.nil_append, List.length_append, List.length_take, List.length_singleton]; have := HLL.out; have := HKL.out; have := HM.out; omega) ?_; intro v5 w5 hr5 hb5 hg5 _; (have HR5 := Aside0.mk hr5); clear HB3 HR4; (have HB3 := Aside0.mk hb5); clear hr5 hb5 hg5))
      all_goals (
        have s1 := HB0.out.size
        have s2 := HB1.out.size
        have s3 := HBT.out.size
        have s4 := Nat.le_trans s1 (Nat.le_trans s2 s3)
        have HRF : Aside0 (Kd.R k79 79 w5 w.heap.size (fun _ => True) v5 (dirS (dIns (nm.data.toList, f) d1))) := ⟨by
          rw [HSP.out, dirS_mid]
          exact Kd.R_lower HR5.out s4⟩
        have HBF := Aside0.mk (((HB0.out.trans (HB1.out.mono s1)).trans (HBT.out.mono (Nat.le_trans s1 s2))).trans (HB3.out.mono s4))
        clear s1 s2 s3 s4 cu1 cu2 z0 z1 HR5
        go_wp2_with fail
        go_ret
        exact ⟨v5, rfl, HRF.out, HBF.out⟩)
end Go.Proofs.Ytephblclhojffaa.A
namespace Go.Proofs.Ytephblclhojffaa.A
open Go.RowKit Go.Proofs.YtephblclhojffaaW.PrintWords Go.Proofs.YtephblclhojffaaW.PrintLast Go.Proofs.YtephblclhojffaaW.PrintMore
set_option linter.unusedVariables false
set_option linter.unusedSimpArgs false

theorem rising_eq {d e : Dir} (h1 : Rising d) (h2 : Rising e) (hp : d.Perm e) : d = e :=
  List.Perm.eq_of_pairwise (le := fun p q : Bs × Nat => p.1 < q.1) (fun a b _ _ hab hba => absurd hba (List.lt_asymm hab)) h1 h2 hp
theorem ren_eq {d : Dir} (h : Rising d) {a b : Bs} (hab : a ≠ b) (f : Nat) : dDel (dPut d b f) a = dPut (dDel d a) b f := by
  refine rising_eq (rising_del (rising_put h b f) a) (rising_put (rising_del h a) b f) ?_
  refine (ren_perm d a b f).trans ?_
  refine List.Perm.trans ?_ (dPut_perm (dDel d a) b f).symm
  rw [dDel_miss (show ¬ (b, f).1 = a from fun e => hab e.symm)]
  have e : dDel (dDel d b) a = dDel (dDel d a) b := by
    unfold dDel
    rw [List.filter_filter, List.filter_filter]
    congr 1
    funext p
    rw [Bool.and_comm]
  rw [e]
/-- A change that the reference may make. -/
def ChgR2 : Chg → Prop
  | .mk k f => k.length < 4611686018427387904 ∧ f < 4611686018427387904
  | .ren a b => b ≠ [] ∧ a ≠ b ∧ b.length < 4611686018427387904
  | .rm a => True
def NamesLe (d : Dir) : Prop := ∀ p ∈ d, p.1.length < 4611686018427387904
theorem own_or {own : Nat → Prop} {B : Nat} {w : World} {v : Value} {l : List S79} (h : Kd.R k79 79 w B (fun _ => True) v l) : Kd.R k79 79 w 0 (fun k => own k ∨ B ≤ k) v l := by
  refine Kd.R_lower (Kd.R_mono (Kd.R_bound h) (fun k hk => .inr hk.2.1)) (Nat.zero_le _)
theorem rd79_at (d : Dir) (k : Nat) : rd_T79 (dirS d) (k : Int) = ⟨bsS (d.getD k ([], 0)).1, ((d.getD k ([], 0)).2 : Int)⟩ := dirS_at d k
set_option maxRecDepth 100000 in
set_option maxHeartbeats 4000000 in
theorem rApply.calls {d : Dir} (hR : Rising d) (hl : d.length < 100000) (hds : NamesLe d) (c : Chg) (hc : ChgR2 c) (hv : ∀ p ∈ d, p.2 < 4611686018427387904) (w : World) {own : Nat → Prop} {dv : Value} (hd : Kd.R k79 79 w 0 own dv (dirS d)) :
    Calls Try.prog 67 #[dv, .agg #[.string (c90 c).f0, .string (c90 c).f1, .int .i64 (c90 c).f2]] w fun e w' => ∃ v, e = .returned v ∧ Kd.R k79 79 w' 0 (fun k => own k ∨ w.heap.size ≤ k) v (dirS (c.app d)) ∧ Below w.heap.size w w' := by
  have hu90 := Try.underlying90
  obtain ⟨x, hx⟩ : ∃ x, x = Obj.cells #[.string (c90 c).f0, .string (c90 c).f1, .int .i64 (c90 c).f2] 90 (0, 0) := ⟨_, rfl⟩
  have hb0 : Below w.heap.size w (w.alloc x) := (Below.refl _ w).alloc (Nat.le_refl _) _
  have hbx : (w.alloc x).heap[w.heap.size]? = some (Obj.cells #[.string (c90 c).f0, .string (c90 c).f1, .int .i64 (c90 c).f2] 90 (0, 0)) := by rw [← hx]; exact heap_alloc w x
  have hd0 := Kd.R_below hd hb0
  have y0 := cells_of hbx 0 rfl
  have y1 := cells_of hbx 1 rfl
  have y2 := cells_of hbx 2 rfl
  simp only [List.getElem_toArray, List.getElem_cons_zero, List.getElem_cons_succ] at y0 y1 y2
  have HB0 := Aside0.mk hb0
  cases c with
  | mk k f =>
    have hwi := rwith.calls hl (bsS k) (by rw [bsS_size]; exact hc.1) hds f _ hd0
    have HS := Aside0.mk (show c90 (.mk k f) = ⟨bsS k, ⟨#[]⟩, f⟩ from rfl)
    simp only [HS.out] at hx y0 y1 y2 ⊢
    have b1 : ((⟨#[]⟩ : ByteArray).toList != (⟨#[]⟩ : ByteArray).toList) = false := by simp
    have b2 : decide ((f : Int) < 0) = false := decide_eq_false (by omega)
    have HA := Aside0.mk (show Chg.app d (.mk k f) = dPut d (bsS k).data.toList f by rw [bsS_list]; rfl)
    rw [HA.out]
    obtain ⟨A1, c1, rfl, -, -⟩ := Kd.R_reads hd
    generalize bsS k = nm at *
    clear hb0 hbx hd hd0 hR hl hds hv hc
    subst hx
    go_enter Try.func67, Try.ntmps67
    go_wp2_with fail
    generalize w.alloc (.cells #[.string nm, .string ⟨#[]⟩, .int .i64 f] 90 (0, 0)) = w0 at *
    refine hwi.mono ?_
    rintro e w1 ⟨v, rfl, hr, hb⟩
    have HR := Aside0.mk (own_or (own := own) (Kd.R_lower hr HB0.out.size))
    have HB := Aside0.mk (HB0.out.trans (hb.mono HB0.out.size))
    clear hr hb hwi
    go_wp2_with fail
    go_ret
    exact ⟨v, rfl, HR.out, HB.out⟩
  | rm a =>
    have hwi := without_calls (bsS a) (by omega) _ hd0
    have HS := Aside0.mk (show c90 (.rm a) = ⟨bsS a, ⟨#[]⟩, -1⟩ from rfl)
    simp only [HS.out] at hx y0 y1 y2 ⊢
    have b1 : ((⟨#[]⟩ : ByteArray).toList != (⟨#[]⟩ : ByteArray).toList) = false := by simp
    have HA := Aside0.mk (show Chg.app d (.rm a) = dDel d (bsS a).data.toList by rw [bsS_list]; rfl)
    rw [HA.out]
    obtain ⟨A1, c1, rfl, -, -⟩ := Kd.R_reads hd
    generalize bsS a = nm at *
    clear hb0 hbx hd hd0 hR hl hds hv hc
    subst hx
    go_enter Try.func67, Try.ntmps67
    go_wp2_with fail
    generalize w.alloc (.cells #[.string nm, .string ⟨#[]⟩, .int .i64 (-1)] 90 (0, 0)) = w0 at *
    refine hwi.mono ?_
    rintro e w1 ⟨v, rfl, hr, hb⟩
    have HR := Aside0.mk (own_or (own := own) (Kd.R_lower hr HB0.out.size))
    have HB := Aside0.mk (HB0.out.trans (hb.mono HB0.out.size))
    clear hr hb hwi
    go_wp2_with fail
    go_ret
    exact ⟨v, rfl, HR.out, HB.out⟩
  | ren a b =>
    obtain ⟨hb1, hab, hbl⟩ := hc
    have hat := at_calls hR (bsS a) (by omega) _ hd0
    have HS := Aside0.mk (show c90 (.ren a b) = ⟨bsS a, bsS b, 0⟩ from rfl)
    simp only [HS.out] at hx y0 y1 y2 ⊢
    have b1 : ((bsS b).toList != (⟨#[]⟩ : ByteArray).toList) = true := by
      rw [ByteArray.toList_eq, ByteArray.toList_eq, bsS_list]
      simpa using hb1
    have hnil : (bsS b).toList ≠ [] := by rw [ByteArray.toList_eq, bsS_list]; exact hb1
    have hemp : (!(bsS b).toList.isEmpty) = true := by simpa using hnil
    rw [bsS_list] at hat
    have HAP : Aside0 (dGet d a = none → Chg.app d (.ren a b) = d) := ⟨fun h => by simp only [Chg.app, h]⟩
    have HAQ : Aside0 (∀ f, dGet d a = some f → Chg.app d (.ren a b) = dPut (dDel d a) b f) := ⟨fun f h => by simp only [Chg.app, h]; exact ren_eq hR hab f⟩
    generalize hcd : Chg.app d (.ren a b) = dd at *
    have HD := Aside0.mk hd; have HD0 := Aside0.mk hd0; have HDS := Aside0.mk hds; have HVv := Aside0.mk hv; have HLl := Aside0.mk hl
    obtain ⟨A1, c1, rfl, hc1, hC1⟩ := Kd.R_reads hd
    have HC1 := Aside0.mk (Kd.C_below hC1 hb0)
    rw [dirS_len] at HC1 hat hc1 ⊢
    have HBX := Aside0.mk (fun W (hb : Below (w.alloc x).heap.size (w.alloc x) W) => (⟨pw_cell_below hb y0, pw_cell_below hb y1⟩ : W.cell? ⟨w.heap.size, 0, none⟩ = some (.string (bsS a)) ∧ W.cell? ⟨w.heap.size, 1, none⟩ = some (.string (bsS b))))
    have HBL := Aside0.mk hbl
    clear hb0 hbx hd hd0 hR hl hds hv hbl hb1 hab hC1 hc1 hcd
    subst hx
    go_enter Try.func67, Try.ntmps67
    go_wp2_with fail
    generalize w.alloc (.cells #[.string (bsS a), .string (bsS b), .int .i64 0] 90 (0, 0)) = w0 at *
    refine hat.mono ?_
    rintro e w1 ⟨r, rfl, har, hdw⟩
    have HDW := Aside0.mk hdw.below
    clear hdw hat
    rcases har with ⟨rfl, hg⟩ | ⟨i, rfl, hi, hn, hg⟩
    · obtain rfl := HAP.out hg
      have HR1 := Aside0.mk (Kd.R_mono (Kd.R_below HD0.out HDW.out) (fun k hk => (Or.inl hk : own k ∨ w.heap.size ≤ k)))
      have HB := Aside0.mk (HB0.out.trans (HDW.out.mono HB0.out.size))
      clear hg
      have HLD := Aside0.mk (dirS_len dd)
      go_wp2_with fail
      go_ret
      exact ⟨_, rfl, by have h := HR1.out; rw [HLD.out] at h; exact h, HB.out⟩
    · obtain rfl := HAQ.out _ hg
      obtain ⟨a1, e1, x1, x2⟩ := at_T79 (Kd.C_below HC1.out HDW.out) (i : Int) (by omega) (by omega)
      rw [dirS_at, Int.toNat_natCast] at x1 x2
      simp only at x1 x2
      subst e1
      obtain ⟨z0, z1⟩ := HBX.out w1 HDW.out
      have hwo := without_calls (bsS a) (by have := HLl.out; omega) _ (Kd.R_below HD0.out HDW.out)
      rw [bsS_list, dirS_len] at hwo
      obtain ⟨q, hq⟩ : ∃ q, q = (d.getD i ([], 0)).2 := ⟨_, rfl⟩
      rw [← hq] at x2
      have HQ := Aside0.mk hq
      clear hq
      have q0 : decide ((i : Int) < 0) = false := decide_eq_false (by omega)
      have q1 : 0 ≤ (i : Int) := by omega
      have q2 : (i : Int) < (d.length : Int) := by omega
      clear hi hn hg y0 y1 y2
      go_wp2_with fail
      refine hwo.mono ?_
      rintro e w2 ⟨v2, rfl, hr2, hb2⟩
      have HB2 := Aside0.mk (HDW.out.trans (hb2.mono HDW.out.size))
      obtain ⟨u0, u1⟩ := HBX.out w2 HB2.out
      have hwi := rwith.calls (d := dDel d a) (Nat.lt_of_le_of_lt (List.length_filter_le _ _) HLl.out) (bsS b) (by rw [bsS_size]; exact HBL.out) (fun p hp => HDS.out p (List.filter_sublist.subset hp)) q w2 (Kd.R_lower hr2 (Nat.zero_le _))
      rw [bsS_list] at hwi
      obtain ⟨A2, c2, rfl, -, -⟩ := Kd.R_reads hr2
      clear hr2 hb2 hwo x1 x2 z0 z1
      go_wp2_with fail
      refine hwi.mono ?_
      rintro e w3 ⟨v3, rfl, hr3, hb3⟩
      have hs3 := Nat.le_trans HB0.out.size HB2.out.size
      have HR := Aside0.mk (own_or (own := own) (Kd.R_lower hr3 hs3))
      have HB := Aside0.mk ((HB0.out.trans (HB2.out.mono HB0.out.size)).trans (hb3.mono hs3))
      clear hr3 hb3 hwi u0 u1
      go_wp2_with fail
      go_ret
      exact ⟨v3, rfl, by have h := HR.out; rw [HQ.out] at h; exact h, HB.out⟩
end Go.Proofs.Ytephblclhojffaa.A
