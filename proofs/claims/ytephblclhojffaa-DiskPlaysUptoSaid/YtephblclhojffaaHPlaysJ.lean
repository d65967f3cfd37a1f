/- What the reference's disk counts on holds behind each step; plain. Two disks beside one another; a step that fails changes nothing. What several walks share: the state at a loop's head, a step in a box, a disk's names. The program's disk and the reference's beside one another, alike. DiskPlays' walk. -/
import Derived.Test.YtephblclhojffaaAx0
import Derived.Test.YtephblclhojffaaHRefB
import Derived.Test.YtephblclhojffaaHAtO
import Derived.Test.YtephblclhojffaaHAt
import Derived.Deep.RegionHeld3
namespace Go.Proofs.Ytephblclhojffaa.A
set_option linter.unusedVariables false
set_option linter.unusedSimpArgs false

structure InvR (M : DM) (n : Nat) : Prop where
  ri : Rising M.sdir
  ha : 0 ≤ M.halt
  de : 0 ≤ M.deny
  ch : ∀ c ∈ M.chg, ChgR2 c
  fl : M.files.length ≤ n
theorem InvR.mono {M : DM} {n n' : Nat} (h : InvR M n) (hn : n ≤ n') : InvR M n' := ⟨h.ri, h.ha, h.de, h.ch, Nat.le_trans h.fl hn⟩
theorem InvR.up {M : DM} {n : Nat} (h : InvR M n) : InvR (tick M) (n + 1) := ⟨h.ri, h.ha, h.de, h.ch, Nat.le_succ_of_le h.fl⟩
theorem right_len {k : Bs} (h : rightB k = true) : 1 ≤ k.length ∧ k.length ≤ 12 := by
  unfold rightB at h
  simp only [Bool.and_eq_true, decide_eq_true_eq] at h
  exact ⟨h.1.2, h.2⟩
theorem ch_push {l : List Chg} {c : Chg} (h : ∀ c ∈ l, ChgR2 c) (hc : ChgR2 c) : ∀ x ∈ l ++ [c], ChgR2 x := by
  intro x hx
  rcases List.mem_append.1 hx with hx | hx
  · exact h x hx
  · rw [List.mem_singleton.1 hx]; exact hc
theorem later_pos {M : DM} (h : 0 ≤ M.calls) (x : Int) : 0 ≤ laterF M x := by
  unfold laterF never
  split <;> omega
theorem rising_full {M : DM} {n t m : Nat} (hI : Inv M n t) (h : InvR M m) : Rising M.dir := by rw [← hI.full]; exact rising_replay _ h.ri
theorem invR_new (s : Int) : InvR (newF s) 0 := ⟨List.Pairwise.nil, by simp [newF, never], by simp [newF, never], by simp [newF], by simp [newF]⟩
theorem invR_does {M : DM} {n t : Nat} (hI : Inv M n t) (h : InvR M n) (hn : n < 4611686018427387904) (k : Int) (a b : Bs) (x : Int) (keep : List Int) : InvR (doesF M k a b x keep).1 (n + 1) := by
  have hd := rising_full hI h
  have h1 := h.mono (Nat.le_succ n)
  unfold doesF
  split
  · unfold createF
    split
    · exact h.up
    · split
      · exact h.up
      · rename_i h2 h3
        have hr : rightB a = true := by simp at h3; exact h3.2
        have := right_len hr
        have hf := h.fl
        exact ⟨h.ri, h.ha, h.de, ch_push h.ch ⟨by omega, by omega⟩, by show (M.files ++ [([], 0)]).length ≤ _; rw [List.length_append]; exact Nat.succ_le_succ hf⟩
  split
  · unfold appendF
    split
    · exact h.up
    · split
      · exact h.up
      · split
        · exact h.up
        · exact ⟨h.ri, h.ha, h.de, h.ch, by show (List.modify M.files _ _).length ≤ _; rw [List.length_modify]; exact h1.fl⟩
  split
  · unfold syncF
    split
    · exact h.up
    · split
      · exact h.up
      · exact ⟨h.ri, h.ha, h.de, h.ch, by show (List.modify M.files _ _).length ≤ _; rw [List.length_modify]; exact h1.fl⟩
  split
  · unfold renameF
    split
    · exact h.up
    · split
      · exact h.up
      · rename_i h2 h3
        simp only [Bool.or_eq_true, not_or, Bool.not_eq_true, Option.isNone_eq_false_iff] at h3
        obtain ⟨⟨h4, h5⟩, h6⟩ := h3
        have hr : rightB b = true := by simpa using h6
        have hl := right_len hr
        have hab : a ≠ b := by intro e; rw [e] at h5; simp at h5
        exact ⟨h.ri, h.ha, h.de, ch_push h.ch ⟨by rintro rfl; simp at hl, hab, by omega⟩, h1.fl⟩
  split
  · unfold removeF
    split
    · exact h.up
    · split
      · exact h.up
      · exact ⟨h.ri, h.ha, h.de, ch_push h.ch trivial, h1.fl⟩
  split
  · unfold syncDirF
    split
    · exact h.up
    · exact ⟨hd, h.ha, h.de, by simp, h1.fl⟩
  split
  · exact ⟨h.ri, h.ha, h.de, h.ch, h1.fl⟩
  split
  · exact ⟨h.ri, later_pos hI.c0 x, h.de, h.ch, h1.fl⟩
  split
  · exact ⟨h.ri, h.ha, later_pos hI.c0 x, h.ch, h1.fl⟩
  · exact ⟨rising_replay _ h.ri, by simp [crashF, never], by simp [crashF, never], by simp [crashF], by show (cutAll _ _ _ _).length ≤ _; rw [cutAll_len]; exact h1.fl⟩
theorem allR_of {M : DM} {n t : Nat} (hI : Inv M n t) (h : InvR M n) (hn : n < 100000) (ht : t ≤ 1099511627776) : AllR M := by
  have hd := rising_full hI h
  have c1 := hI.c1
  have hP := hI.dirP
  have hl := hI.dirL
  have hcl := hI.cl
  have hfl := h.fl
  have hnm : ∀ k, NamesLe (replay M.sdir (M.chg.take k)) := fun k p hp => by
    have := right_len ((hI.pre k).right p hp)
    omega
  have hnd : NamesLe M.dir := fun p hp => by
    have := right_len (hP.right p hp)
    omega
  exact {
    cnt := ⟨hI.c0, by omega, h.ha, h.de⟩
    bd := ⟨hd, by omega, hnd, fun p hp => by have := hP.val p hp; omega, by omega⟩
    cr := ⟨h.ri, h.ch, fun k => by have := hI.len k; omega, hnm, fun k => (hI.pre k).val, by omega, by omega, hI.sure, fun i => Nat.le_trans (hI.fits i) ht⟩
    hv := hP.val
    fi := fun i => Nat.le_trans (hI.fits i) ht
    fl := by omega
    sp := hI.s1
    sp0 := hI.s0 }
end Go.Proofs.Ytephblclhojffaa.A
namespace Go.Proofs.Ytephblclhojffaa.A
open Go.RowKit Go.Proofs.YtephblclhojffaaW.PrintWords Go.Proofs.YtephblclhojffaaW.PrintLast Go.Proofs.YtephblclhojffaaW.PrintMore
open Go.Maps
set_option linter.unusedVariables false
set_option linter.unusedSimpArgs false

theorem fail_tick {M : DM} {k : Int} {a b : Bs} {x : Int} {keep : List Int} (h0 : 0 ≤ k) (h5 : k ≤ 5) (he : (doesF M k a b x keep).2 ≠ 0) : (doesF M k a b x keep).1 = tick M := by
  have hk : k = 0 ∨ k = 1 ∨ k = 2 ∨ k = 3 ∨ k = 4 ∨ k = 5 := by omega
  rcases hk with rfl | rfl | rfl | rfl | rfl | rfl
  · rw [show doesF M 0 a b x keep = createF M a from rfl] at he ⊢
    unfold createF at he ⊢
    split
    · rfl
    · rename_i h1
      split
      · rfl
      · rename_i h2; rw [if_neg h1, if_neg h2] at he; exact absurd rfl he
  · rw [show doesF M 1 a b x keep = appendF M a b from rfl] at he ⊢
    unfold appendF at he ⊢
    split
    · rfl
    · rename_i h1
      rw [if_neg h1] at he
      split
      · rfl
      · rename_i i hg
        simp only [hg] at he
        split
        · rfl
        · rename_i h2; rw [if_neg h2] at he; exact absurd rfl he
  · rw [show doesF M 2 a b x keep = syncF M a from rfl] at he ⊢
    unfold syncF at he ⊢
    split
    · rfl
    · rename_i h1
      rw [if_neg h1] at he
      split
      · rfl
      · rename_i i hg
        simp only [hg] at he
        exact absurd rfl he
  · rw [show doesF M 3 a b x keep = renameF M a b from rfl] at he ⊢
    unfold renameF at he ⊢
    split
    · rfl
    · rename_i h1
      split
      · rfl
      · rename_i h2; rw [if_neg h1, if_neg h2] at he; exact absurd rfl he
  · rw [show doesF M 4 a b x keep = removeF M a from rfl] at he ⊢
    unfold removeF at he ⊢
    split
    · rfl
    · rename_i h1
      split
      · rfl
      · rename_i h2; rw [if_neg h1, if_neg h2] at he; exact absurd rfl he
  · rw [show doesF M 5 a b x keep = syncDirF M from rfl] at he ⊢
    unfold syncDirF at he ⊢
    split
    · rfl
    · rename_i h1; rw [if_neg h1] at he; exact absurd rfl he

/-- Two disks, no block in common. -/
def Two (w0 w : World) (d e : Nat) (M N : DM) : Prop := ∃ o1 o2, AtO true w0.heap.size w0 w d o1 M ∧ AtO true w0.heap.size w0 w e o2 N ∧ ∀ k, o1 k → ¬ o2 k
section
variable {w0 w w' : World} {d e : Nat} {M N M' : DM} {n t : Nat}
theorem Two.a1 (h : Two w0 w d e M N) : At true w0.heap.size w0 w d M := by
  obtain ⟨_, _, h1, _, _⟩ := h; exact h1.at_
theorem Two.a2 (h : Two w0 w d e M N) : At true w0.heap.size w0 w e N := by
  obtain ⟨_, _, _, h1, _⟩ := h; exact h1.at_
theorem Two.bel (h : Two w0 w d e M N) : Below w0.heap.size w0 w := h.a1.bel
theorem Two.below (h : Two w0 w d e M N) (hb : Below w.heap.size w w') : Two w0 w' d e M N := by
  obtain ⟨o1, o2, h1, h2, h3⟩ := h
  exact ⟨o1, o2, h1.below hb, h2.below hb, h3⟩
theorem Two.swap (h : Two w0 w d e M N) : Two w0 w e d N M := by
  obtain ⟨o1, o2, h1, h2, h3⟩ := h
  exact ⟨o2, o1, h2, h1, fun k a b => h3 k b a⟩
theorem Two.moved {o1 o2 : Nat → Prop} (h1 : AtO true w0.heap.size w0 w d o1 M) (h2 : AtO true w0.heap.size w0 w e o2 N) (h3 : ∀ k, o1 k → ¬ o2 k) (hm : Moved true w0.heap.size w0 w w' d o1 M') : Two w0 w' d e M' N := by
  obtain ⟨o', ha, hb, hW⟩ := hm
  exact ⟨o', o2, ha, h2.only hW h3 h1.2.1, fun k a b => (hb k a).elim (fun c => h3 k c b) (fun c => by have := h2.lt k b; omega)⟩
theorem Two.does1 (h : Two w0 w d e M N) (hI : Inv M n t) (hn : n < 500000) (ht : t ≤ 1099511627776) (o : S24) (Ak : Option Addr) (ck : Nat) (hk : Kd.C (Kd.int .i64) w0 Ak o.f4.length o.f4) (hck : o.f4.length ≤ ck) (hs1 : o.f1.size ≤ maxLen) (hs2 : o.f2.size ≤ 1099511627776) :
    Calls Try.prog 19 #[.pointer (some ⟨d, 0, none⟩), .agg #[.int .i64 o.f0, .string o.f1, .string o.f2, .int .i64 o.f3, .slice Ak o.f4.length ck]] w fun x w' => x = .returned (.int .i64 (stepF M o).2) ∧ Two w0 w' d e (stepF M o).1 N := by
  obtain ⟨o1, o2, h1, h2, h3⟩ := h
  refine (h1.does hI hn ht o Ak ck hk hck hs1 hs2).mono ?_
  rintro x w' ⟨rfl, hm⟩
  exact ⟨rfl, Two.moved h1 h2 h3 hm⟩
theorem Two.does2 (h : Two w0 w d e M N) (hI : Inv N n t) (hn : n < 500000) (ht : t ≤ 1099511627776) (o : S24) (Ak : Option Addr) (ck : Nat) (hk : Kd.C (Kd.int .i64) w0 Ak o.f4.length o.f4) (hck : o.f4.length ≤ ck) (hs1 : o.f1.size ≤ maxLen) (hs2 : o.f2.size ≤ 1099511627776) :
    Calls Try.prog 19 #[.pointer (some ⟨e, 0, none⟩), .agg #[.int .i64 o.f0, .string o.f1, .string o.f2, .int .i64 o.f3, .slice Ak o.f4.length ck]] w fun x w' => x = .returned (.int .i64 (stepF N o).2) ∧ Two w0 w' d e M (stepF N o).1 :=
  (h.swap.does1 hI hn ht o Ak ck hk hck hs1 hs2).mono fun _ _ ⟨a, b⟩ => ⟨a, b.swap⟩
theorem Two.crash1 (h : Two w0 w d e M N) (hI : Inv M n t) (hn : n < 500000) (ht : t ≤ 1099511627776) (x : Int) (A : Option Addr) (c : Nat) (keep : List Int) (hk : Kd.C (Kd.int .i64) w0 A keep.length keep) (hc : keep.length ≤ c) :
    Calls Try.prog 13 #[.pointer (some ⟨d, 0, none⟩), .int .i64 x, .slice A keep.length c] w fun z w' => z = .returned (.tuple #[]) ∧ Two w0 w' d e (crashF M x keep) N := by
  obtain ⟨o1, o2, h1, h2, h3⟩ := h
  refine (h1.crash hI hn ht x A c keep hk hc).mono ?_
  rintro z w' ⟨rfl, hm⟩
  exact ⟨rfl, Two.moved h1 h2 h3 hm⟩
theorem Two.crash2 (h : Two w0 w d e M N) (hI : Inv N n t) (hn : n < 500000) (ht : t ≤ 1099511627776) (x : Int) (A : Option Addr) (c : Nat) (keep : List Int) (hk : Kd.C (Kd.int .i64) w0 A keep.length keep) (hc : keep.length ≤ c) :
    Calls Try.prog 13 #[.pointer (some ⟨e, 0, none⟩), .int .i64 x, .slice A keep.length c] w fun z w' => z = .returned (.tuple #[]) ∧ Two w0 w' d e M (crashF N x keep) :=
  (h.swap.crash1 hI hn ht x A c keep hk hc).mono fun _ _ ⟨a, b⟩ => ⟨a, b.swap⟩
theorem two_new (h : At true w0.heap.size w0 w d M) (x : Int) : Calls Try.prog 17 #[.int .i64 x] w fun z w' => ∃ e, z = .returned (.pointer (some ⟨e, 0, none⟩)) ∧ Two w0 w' d e M (newF x) := by
  obtain ⟨o1, h1⟩ := h.opened
  refine (New.calls x w).mono ?_
  rintro z w' ⟨e, own, rfl, hD, hb, ho⟩
  refine ⟨e, rfl, o1, own, h1.below hb, ⟨hD, fun k hk => Nat.le_trans h1.2.2.2 (ho k hk), h1.2.2.1.trans (hb.mono h1.2.2.2), Nat.le_trans h1.2.2.2 hb.size⟩, fun k a b => ?_⟩
  have := h1.lt k a
  have := ho k b
  omega
end
end Go.Proofs.Ytephblclhojffaa.A
namespace Go.Proofs.Ytephblclhojffaa.A
open Go.RowKit Go.Proofs.YtephblclhojffaaW.PrintWords Go.Proofs.YtephblclhojffaaW.PrintLast Go.Proofs.YtephblclhojffaaW.PrintMore
open Go.Maps
set_option linter.unusedVariables false
set_option linter.unusedSimpArgs false

theorem rising_at {d : Dir} (h : Rising d) (k : Nat) (hk : k + 1 < d.length) : d[k].1 < d[k + 1].1 := by
  have := List.pairwise_iff_getElem.1 h k (k + 1) (by omega) hk (by omega)
  exact this
theorem step_pre {M : DM} {k : Nat} {o : S24} (hI : Inv M k (k * 1048576)) (ho : OpOk o) : Inv (stepF M o).1 (k + 1) ((k + 1) * 1048576) := by
  have h := inv_does hI (kindF o.f0) o.f1.data.toList o.f2.data.toList o.f3 ho.n3 o.f4
  refine h.mono (Nat.le_refl _) ?_
  have h1 := ho.s2
  have h2 : o.f2.data.toList.length = o.f2.size := by rw [Array.length_toList]; rfl
  rw [h2, Nat.succ_mul]
  omega
/-- What holds at the loop's head. -/
def StepR (w0 wr : World) (db : Nat) (k : Nat) : Prop := ∃ M, At true w0.heap.size w0 wr db M ∧ Inv M k (k * 1048576)
theorem names_bs (M : DM) (k : Nat) (hk : k < M.dir.length) : (namesF M)[k]'(by simpa [namesF] using hk) = bsS M.dir[k].1 := by simp [namesF, bsS]
theorem names_at' (M : DM) (k : Nat) (hk : k < M.dir.length) : rdOf ByteArray.empty (namesF M) (k : Int) = bsS (M.dir.getD k ([], 0)).1 := by
  rw [names_at M k hk]; simp [hk]
/-- What the names of a disk are. -/
theorem names_plain {M : DM} {n : Nat} (hI : Inv M n (n * 1048576)) (hR : Rising M.dir) (hn : n ≤ 301) : ∀ j, j < M.dir.length →
    Fits M 1099511627776 ∧ (M.dir.getD j ([], 0)).1.length ≤ 12 ∧ rightB (M.dir.getD j ([], 0)).1 = true ∧ readF M (M.dir.getD j ([], 0)).1 = ((M.files.getD (M.dir.getD j ([], 0)).2 ([], 0)).1, 0) ∧
      heldTo M (j + 1) = heldTo M j + ((M.files.getD (M.dir.getD j ([], 0)).2 ([], 0)).1.length) ∧ heldTo M (j + 1) ≤ 1000000000000 ∧ ∀ i, i + 1 = j → (M.dir.getD i ([], 0)).1 < (M.dir.getD j ([], 0)).1 := by
  intro j hj
  have hfit : Fits M 1099511627776 := fun i => Nat.le_trans (hI.fits i) (by omega)
  have e : M.dir.getD j ([], 0) = M.dir[j] := by simp [hj]
  rw [e]
  have hm := List.getElem_mem hj
  have hr := hI.dirP.right _ hm
  have hlen : M.dir[j].1.length ≤ 12 := by unfold rightB at hr; simp at hr; omega
  have hg : dGet M.dir M.dir[j].1 = some M.dir[j].2 := dGet_of_mem hR hm
  refine ⟨hfit, hlen, hr, ?_, heldTo_succ M j hj, ?_, ?_⟩
  · unfold readF; rw [hg]
  · have h1 := heldTo_le M _ hI.fits (j + 1)
    have h2 := hI.dirL
    have h3 : (j + 1) * (n * 1048576) ≤ 301 * (301 * 1048576) := Nat.mul_le_mul (by omega) (by omega)
    omega
  · intro i hi
    subst hi
    have e2 : M.dir.getD i ([], 0) = M.dir[i] := by simp [show i < M.dir.length by omega]
    rw [e2]
    exact rising_at hR i hj
/-- The five cells of a step that lies in a box. -/
def BoxAt (w : World) (b : Nat) (o : S24) (A : Option Addr) (c : Nat) : Prop := w.heap[b]? = some (.cells #[.int .i64 o.f0, .string o.f1, .string o.f2, .int .i64 o.f3, .slice A o.f4.length c] 24 (0, 0))
theorem BoxAt.below {w w' : World} {b : Nat} {o : S24} {A : Option Addr} {c : Nat} (h : BoxAt w b o A c) (hb : Below w.heap.size w w') : BoxAt w' b o A c := (hb.block b (List.getElem?_eq_some_iff.1 (by simpa [BoxAt] using h)).1).trans h
theorem C_box {w : World} {v : Obj} {A : Option Addr} {m : Nat} {l : List Int} (h : Kd.C (Kd.int .i64) w A m l) : Kd.C (Kd.int .i64) (w.alloc v) A m l := Kd.C_below h ((Below.refl w.heap.size w).alloc (Nat.le_refl _) v)
end Go.Proofs.Ytephblclhojffaa.A
namespace Go.Proofs.Ytephblclhojffaa.A
open Go.RowKit Go.Proofs.YtephblclhojffaaW.PrintWords Go.Proofs.YtephblclhojffaaW.PrintLast Go.Proofs.YtephblclhojffaaW.PrintMore
open Go.Maps
set_option linter.unusedVariables false
set_option linter.unusedSimpArgs false

/-- Both disks, no block in common. -/
def Mix (w0 w : World) (d rb : Nat) (M N : DM) : Prop := ∃ o1 o2, AtO true w0.heap.size w0 w d o1 M ∧ IsRef w o2 rb N ∧ (∀ k, o2 k → w0.heap.size ≤ k) ∧ ∀ k, o1 k → ¬ o2 k
section
variable {w0 w w' : World} {d rb : Nat} {M N M' N' : DM} {n t : Nat} {o1 o2 : Nat → Prop}
theorem IsRef.lt (h : IsRef w o2 rb N) : ∀ k, o2 k → k < w.heap.size := by
  obtain ⟨fv, dv, sv, cv, h⟩ := h
  exact h.lt
theorem IsRef.only {S : Nat → Prop} (h : IsRef w o2 rb N) (hW : Only w w' S) (hS : ∀ k, S k → ¬ o2 k) : IsRef w' o2 rb N := by
  obtain ⟨fv, dv, sv, cv, h⟩ := h
  exact ⟨fv, dv, sv, cv, h.kept (fun k hk => hW.block k (h.lt k hk) (fun e => hS k e hk)) (fun _ h => h) (fun k hk => Nat.lt_of_lt_of_le (h.lt k hk) hW.size)⟩
theorem Mix.a1 (h : Mix w0 w d rb M N) : At true w0.heap.size w0 w d M := by
  obtain ⟨_, _, h1, _, _, _⟩ := h; exact h1.at_
theorem Mix.bel (h : Mix w0 w d rb M N) : Below w0.heap.size w0 w := h.a1.bel
theorem Mix.below (h : Mix w0 w d rb M N) (hb : Below w.heap.size w w') : Mix w0 w' d rb M N := by
  obtain ⟨o1, o2, h1, h2, h3, h4⟩ := h
  exact ⟨o1, o2, h1.below hb, h2.only (Only.of_below hb fun _ => False) (fun _ e => e.elim), h3, h4⟩
theorem Mix.moved (h1 : AtO true w0.heap.size w0 w d o1 M) (h2 : IsRef w o2 rb N) (h3 : ∀ k, o2 k → w0.heap.size ≤ k) (h4 : ∀ k, o1 k → ¬ o2 k) (hm : Moved true w0.heap.size w0 w w' d o1 M') : Mix w0 w' d rb M' N := by
  obtain ⟨o', ha, hb, hW⟩ := hm
  exact ⟨o', o2, ha, h2.only hW h4, h3, fun k a b => (hb k a).elim (fun c => h4 k c b) (fun c => by have := h2.lt k b; omega)⟩
theorem Mix.movedR (h1 : AtO true w0.heap.size w0 w d o1 M) (h2 : IsRef w o2 rb N) (h3 : ∀ k, o2 k → w0.heap.size ≤ k) (h4 : ∀ k, o1 k → ¬ o2 k) (hm : WentR w w' o2 rb N') : Mix w0 w' d rb M N' := by
  obtain ⟨o', ha, hb, hW⟩ := hm
  have hs := h1.2.2.2
  exact ⟨o1, o', h1.only hW (fun k a b => h4 k b a) h3, ha, fun k a => (hb k a).elim (h3 k) (fun c => by omega), fun k a b => (hb k b).elim (fun c => h4 k a c) (fun c => by have := h1.lt k a; omega)⟩
theorem Mix.does (h : Mix w0 w d rb M N) (hI : Inv M n t) (hn : n < 500000) (ht : t ≤ 1099511627776) (o : S24) (Ak : Option Addr) (ck : Nat) (hk : Kd.C (Kd.int .i64) w0 Ak o.f4.length o.f4) (hck : o.f4.length ≤ ck) (hs1 : o.f1.size ≤ maxLen) (hs2 : o.f2.size ≤ 1099511627776) :
    Calls Try.prog 19 #[.pointer (some ⟨d, 0, none⟩), .agg #[.int .i64 o.f0, .string o.f1, .string o.f2, .int .i64 o.f3, .slice Ak o.f4.length ck]] w fun x w' => x = .returned (.int .i64 (stepF M o).2) ∧ Mix w0 w' d rb (stepF M o).1 N := by
  obtain ⟨o1, o2, h1, h2, h3, h4⟩ := h
  refine (h1.does hI hn ht o Ak ck hk hck hs1 hs2).mono ?_
  rintro x w' ⟨rfl, hm⟩
  exact ⟨rfl, Mix.moved h1 h2 h3 h4 hm⟩
theorem Mix.doesR (h : Mix w0 w d rb M N) (hB : AllR N) (o : S24) (Ak : Option Addr) (ck : Nat) (hk : Kd.C (Kd.int .i64) w0 Ak o.f4.length o.f4) (hck : o.f4.length ≤ ck) (hs1 : o.f1.size ≤ 4611686018427387903) (hs2 : o.f2.size ≤ 1099511627776) (hn3 : o.f3 ≤ 9223372036854775807) :
    Calls Try.prog 20 #[.pointer (some ⟨rb, 0, none⟩), .agg #[.int .i64 o.f0, .string o.f1, .string o.f2, .int .i64 o.f3, .slice Ak o.f4.length ck]] w fun x w' => x = .returned (.int .i64 (stepF N o).2) ∧ Mix w0 w' d rb M (stepF N o).1 := by
  obtain ⟨o1, o2, h1, h2, h3, h4⟩ := h
  have hR := h2
  obtain ⟨fv, dv, sv, cv, hr⟩ := h2
  refine (doesRef.calls hr hB o Ak ck (fun W hW => Kd.C_below hk (h1.2.2.1.trans (hW.below h3 h1.2.2.2))) hck hs1 hs2 hn3).mono ?_
  rintro x w' ⟨rfl, hm⟩
  exact ⟨rfl, Mix.movedR h1 hR h3 h4 hm⟩
theorem Mix.heldR (h : Mix w0 w d rb M N) (hB : AllR N) :
    Calls Try.prog 22 #[.pointer (some ⟨rb, 0, none⟩)] w fun e w' => e = .returned (.int .i64 (held N)) ∧ Drawn0 w w' := by
  obtain ⟨o1, o2, h1, ⟨fv, dv, sv, cv, hr⟩, h3, h4⟩ := h
  exact rHeld.calls hr hB.hv (by have := hB.bd.dl; omega) (by have := hB.fl; omega) hB.fi
theorem Mix.readR (h : Mix w0 w d rb M N) (hB : AllR N) (nm : ByteArray) :
    Calls Try.prog 23 #[.pointer (some ⟨rb, 0, none⟩), .string nm] w fun e w' => e = .returned (.tuple #[.string (bsS (readF N nm.data.toList).1), .int .i64 (readF N nm.data.toList).2]) ∧ Drawn0 w w' := by
  obtain ⟨o1, o2, h1, ⟨fv, dv, sv, cv, hr⟩, h3, h4⟩ := h
  exact rRead.calls hr hB.bd.ri hB.hv (by have := hB.bd.dl; omega) (by have := hB.fl; omega) nm
theorem Mix.namesR (h : Mix w0 w d rb M N) (hB : AllR N) :
    Calls Try.prog 25 #[.pointer (some ⟨rb, 0, none⟩)] w fun e w' => (∃ A c, e = .returned (.slice A (namesF N).length c) ∧ (namesF N).length ≤ c ∧ Kd.C Kd.string w' A (namesF N).length (namesF N)) ∧ Below w.heap.size w w' := by
  obtain ⟨o1, o2, h1, ⟨fv, dv, sv, cv, hr⟩, h3, h4⟩ := h
  refine (rNames.calls hr (by have := hB.bd.dl; omega)).mono ?_
  rintro e w' ⟨v, rfl, hv, hb⟩
  obtain ⟨A, c, rfl, hc, hC⟩ := Kd.R_reads hv
  exact ⟨⟨A, c, rfl, hc, hC⟩, hb⟩
theorem mix_new (h : At true w0.heap.size w0 w d M) (x : Int) : Calls Try.prog 18 #[.int .i64 x] w fun z w' => ∃ rb, z = .returned (.pointer (some ⟨rb, 0, none⟩)) ∧ Mix w0 w' d rb M (newF x) := by
  obtain ⟨o1, h1⟩ := h.opened
  refine (rNew.calls x w).mono ?_
  rintro z w' ⟨rfl, hD, hb⟩
  refine ⟨w.heap.size, rfl, o1, (· = w.heap.size), h1.below hb, hD, fun k e => by have := h1.2.2.2; omega, fun k a b => ?_⟩
  have := h1.lt k a
  omega
end
/-- What holds at the loop's head. -/
def MixR (w0 wr : World) (d rb : Nat) (k : Nat) : Prop := ∃ M, Mix w0 wr d rb M M ∧ Inv M k (k * 1048576) ∧ InvR M k
theorem step_preR {M : DM} {k : Nat} {o : S24} (hI : Inv M k (k * 1048576)) (h : InvR M k) (hk : k < 1000) : InvR (stepF M o).1 (k + 1) := invR_does hI h (by omega) _ _ _ _ _
theorem mixAll {M : DM} {k : Nat} (hI : Inv M k (k * 1048576)) (h : InvR M k) (hk : k < 1000) : AllR M := allR_of hI h (by omega) (by omega)
end Go.Proofs.Ytephblclhojffaa.A
namespace Go.Proofs.Ytephblclhojffaa.A
open Go.RowKit Go.Proofs.YtephblclhojffaaW.PrintWords Go.Proofs.YtephblclhojffaaW.PrintLast Go.Proofs.YtephblclhojffaaW.PrintMore
open Go.Maps
set_option linter.unusedVariables false
set_option linter.unusedSimpArgs false

set_option maxRecDepth 100000 in
set_option maxHeartbeats 16000000 in
theorem DiskPlays.walk (space : Int) (hsp : space ≤ 9223372036854775807) (l : List S24) (hops : ∀ o ∈ l, OpOk o) (A : Option Addr) (c : Nat) (nm : ByteArray) (hnm : nm.size ≤ 1048576) (w0 : World) (hC : Kd.C k24 w0 A l.length l) (hc : l.length ≤ c) :
    Calls Try.prog 4 #[.int .i64 space, .slice A l.length c, .string nm] w0 fun e w' => e = .returned (.bool true) ∧ Below w0.heap.size w0 w' := by
  have hu24 := Try.underlying24
  have HC := Aside0.mk (C_take hC 300)
  have HOP : Aside0 (∀ (k : Nat) (hk : k < (earlyF l).length), OpOk (earlyF l)[k]) := ⟨fun k hk => hops _ (List.mem_of_mem_take (List.getElem_mem hk))⟩
  have hL := earlyF_len l
  have hL3 : (earlyF l).length ≤ 300 := by omega
  have hear := fun W => early.calls W A c l hc
  have HSP := Aside0.mk hsp
  have HNM := Aside0.mk hnm
  change Aside0 (Kd.C k24 w0 A (earlyF l).length (earlyF l)) at HC
  clear hC hops hL hsp hc hnm
  generalize hE : earlyF l = E at *
  have HL3 := Aside0.mk hL3
  clear hE hL3
  go_enter Try.func4, Try.ntmps4
  go_wp2_with fail
  refine (lives.calls _).mono ?_
  rintro e w1 ⟨rfl, hb1⟩
  have HB1 := Aside0.mk hb1
  clear hb1
  go_wp2_with fail
  refine (hear _).mono ?_
  rintro e w2 ⟨rfl, rfl⟩
  go_wp2_with fail
  refine (at_new w0 w2 HB1.out space).mono ?_
  rintro e w3 ⟨db, rfl, hA⟩
  have hne := mix_new hA space
  clear hA hear
  go_wp2_with fail
  refine hne.mono ?_
  rintro e w4 ⟨rb, rfl, hT⟩
  have hR : Aside0 (MixR w0 w4 db rb 0) := ⟨⟨newF space, hT, (inv_new space HSP.out).mono (Nat.le_refl _) (Nat.zero_le _), invR_new space⟩⟩
  clear hT hne
  go_wp2_with fail
  go_loopw [9] (fun i wr => ∃ k : Nat, k ≤ E.length ∧ i = .int .i64 k ∧ Aside0 (MixR w0 wr db rb k)) (fun i _ => E.length - (intOf i).toNat)
  case atStart => exact ⟨0, Nat.zero_le _, rfl, hR⟩
  case round =>
    clear hR
    obtain ⟨k, hk, rfl, HR⟩ := hrel
    by_cases hlt : k < E.length
    · obtain ⟨M, hT, hI, hIR⟩ := HR.out
      obtain ⟨ad, A4, c4, rfl, g0, g1, g2, g3, g4, hl4, hk4⟩ := op_at HC.out k hlt
      have hB := hT.bel
      have x0 := pw_cell_below hB g0
      have x1 := pw_cell_below hB g1
      have x2 := pw_cell_below hB g2
      have x3 := pw_cell_below hB g3
      have x4 := pw_cell_below hB g4
      have hok := HOP.out k hlt
      have hL3 := HL3.out
      have HDO : Aside0 (∀ W, Mix w0 W db rb M M → Calls Try.prog 19 #[.pointer (some ⟨db, 0, none⟩), .agg #[.int .i64 E[k].f0, .string E[k].f1, .string E[k].f2, .int .i64 E[k].f3, .slice A4 E[k].f4.length c4]] W fun e w' => e = .returned (.int .i64 (stepF M E[k]).2) ∧ Mix w0 w' db rb (stepF M E[k]).1 M) :=
        ⟨fun W h => h.does hI (by omega) (by omega) E[k] A4 c4 hk4 hl4 (by have := hok.s1; unfold maxLen; omega) (by have := hok.s2; omega)⟩
      have hAll := mixAll hI hIR (by omega)
      have HDR : Aside0 (∀ W M', Mix w0 W db rb M' M → Calls Try.prog 20 #[.pointer (some ⟨rb, 0, none⟩), .agg #[.int .i64 E[k].f0, .string E[k].f1, .string E[k].f2, .int .i64 E[k].f3, .slice A4 E[k].f4.length c4]] W fun e w' => e = .returned (.int .i64 (stepF M E[k]).2) ∧ Mix w0 w' db rb M' (stepF M E[k]).1) :=
        ⟨fun W M' h => h.doesR hAll E[k] A4 c4 hk4 hl4 (by have := hok.s1; omega) (by have := hok.s2; omega) hok.n3⟩
      have HX : Aside0 (∀ W, Below w0.heap.size w0 W → W.cell? (ad.add (k * 5)) = some (.int .i64 E[k].f0) ∧ W.cell? ⟨(ad.add (k * 5)).block, (ad.add (k * 5)).off + 1, none⟩ = some (.string E[k].f1) ∧ W.cell? ⟨(ad.add (k * 5)).block, (ad.add (k * 5)).off + 2, none⟩ = some (.string E[k].f2) ∧
          W.cell? ⟨(ad.add (k * 5)).block, (ad.add (k * 5)).off + 3, none⟩ = some (.int .i64 E[k].f3) ∧ W.cell? ⟨(ad.add (k * 5)).block, (ad.add (k * 5)).off + 4, none⟩ = some (.slice A4 E[k].f4.length c4)) := ⟨fun W hb => ⟨pw_cell_below hb g0, pw_cell_below hb g1, pw_cell_below hb g2, pw_cell_below hb g3, pw_cell_below hb g4⟩⟩
      have hI' := step_pre hI hok
      have hIR' := step_preR (o := E[k]) hI hIR (by omega)
      have HI' := Aside0.mk hI'
      have HIR' := Aside0.mk hIR'
      have HAll' := Aside0.mk (mixAll hI' hIR' (by omega))
      have HNS : Aside0 (E[k].f1.size ≤ 1048576) := ⟨hok.s1⟩
      have HT := Aside0.mk (hT.below (w' := wr.drew) (below_drew (Below.refl _ _)))
      have HKN : Aside0 (k < 300) := ⟨by omega⟩
      have HLT := Aside0.mk hlt
      clear hT hI hI' hB hok g0 g1 g2 g3 g4 hl4 hk4 HR hIR hIR' hAll hL3
      generalize stepF M E[k] = res at *
      generalize hoo : E[k] = o at *
      clear hoo
      obtain ⟨M', r'⟩ := res
      have HHE : Aside0 (∀ W, Mix w0 W db rb M' M' → Calls Try.prog 21 #[.pointer (some ⟨db, 0, none⟩)] W fun e w' => e = .returned (.int .i64 (held M')) ∧ Mix w0 w' db rb M' M') :=
        ⟨fun W h => (h.a1.held HI'.out (by have := HKN.out; omega) (by have := HKN.out; omega)).mono fun e w' ⟨h1, _, h3⟩ => ⟨h1, h.below h3⟩⟩
      have HHR : Aside0 (∀ W, Mix w0 W db rb M' M' → Calls Try.prog 22 #[.pointer (some ⟨rb, 0, none⟩)] W fun e w' => e = .returned (.int .i64 (held M')) ∧ Mix w0 w' db rb M' M') :=
        ⟨fun W h => (h.heldR HAll'.out).mono fun e w' ⟨h1, h3⟩ => ⟨h1, h.below h3.below⟩⟩
      have hq1 : (r' == r') = true := beq_self_eq_true r'
      have hq2 : ((held M' : Int) == (held M' : Int)) = true := by simp
      simp only at HDO HDR
      generalize (held M' : Int) = hd at *
      go_wp2_with fail
      go_region_held3 (fun w' => w'.cell? (ad.add (k * 5)) = some (.int .i64 o.f0) ∧ w'.cell? ⟨(ad.add (k * 5)).block, (ad.add (k * 5)).off + 1, none⟩ = some (.string o.f1) ∧ w'.cell? ⟨(ad.add (k * 5)).block, (ad.add (k * 5)).off + 2, none⟩ = some (.string o.f2) ∧ w'.cell? ⟨(ad.add (k * 5)).block, (ad.add (k * 5)).off + 3, none⟩ = some (.int .i64 o.f3) ∧ w'.cell? ⟨(ad.add (k * 5)).block, (ad.add (k * 5)).off + 4, none⟩ = some (.slice A4 o.f4.length c4))
        ((repeat' apply And.intro) <;> (first | assumption | exact (HX.out _ HT.out.bel).1 | exact (HX.out _ HT.out.bel).2.1 | exact (HX.out _ HT.out.bel).2.2.1 | exact (HX.out _ HT.out.bel).2.2.2.1 | exact (HX.out _ HT.out.bel).2.2.2.2 | go_keep))
        (first
          | (go_at_call 19; refine (HDO.out _ HT.out).mono ?_; rintro e w5 ⟨rfl, hT⟩; clear HT; (have HT := Aside0.mk hT); clear hT)
          | (go_at_call 20; refine (HDR.out _ _ HT.out).mono ?_; rintro e w6 ⟨rfl, hT⟩; clear HT; (have HT := Aside0.mk hT); clear hT)
          | (go_at_call 21; refine (HHE.out _ HT.out).mono ?_; rintro e w7 ⟨rfl, hT⟩; clear HT; (have HT := Aside0.mk hT); clear hT)
          | (go_at_call 22; refine (HHR.out _ HT.out).mono ?_; rintro e w8 ⟨rfl, hT⟩; clear HT; (have HT := Aside0.mk hT); clear hT))
      clear x0 x1 x2 x3 x4
      have x1 := (HX.out _ HT.out.bel).2.1
      have hrd := HT.out.a1.read (fun i => Nat.le_trans (HI'.out.fits i) (by have := HKN.out; omega)) o.f1 (by have := HNS.out; unfold maxLen; omega)
      go_wp2_with fail
      refine hrd.mono ?_
      rintro e w9 ⟨rfl, rfl⟩
      have hrr := HT.out.readR HAll'.out o.f1
      clear hrd
      go_wp2_with fail
      refine hrr.mono ?_
      rintro e w10 ⟨rfl, hd10⟩
      have HT10 := Aside0.mk (HT.out.below hd10.below)
      have hnm := HT10.out.a1.names (by have h1 := HI'.out.dirL; have := HKN.out; omega)
      clear hrr hd10 x1
      generalize readF M' o.f1.data.toList = rdd at *
      go_wp2_with fail
      refine hnm.mono ?_
      rintro e w11 ⟨⟨A7, c7, rfl, hc7, hk7⟩, -, hb7⟩
      have HT11 := Aside0.mk (HT10.out.below hb7)
      have HK7 := Aside0.mk hk7
      have hnm2 := HT11.out.namesR HAll'.out
      clear hnm hb7 hk7
      go_wp2_with fail
      refine hnm2.mono ?_
      rintro e w12 ⟨⟨A8, c8, rfl, hc8, hk8⟩, hb8⟩
      have HT12 := Aside0.mk (HT11.out.below hb8)
      have hsm := same_calls (namesF M') (by have h1 := HI'.out.dirL; have h2 := HKN.out; simp [namesF]; omega) A7 A8 c7 c8 w12 (Kd.C_below HK7.out hb8) hc7 hk8 hc8
      clear hnm2 hb8 hk8 hc7 hc8
      go_wp2_with fail
      refine hsm.mono ?_
      rintro e w13 ⟨rfl, hd13⟩
      have HN : Aside0 (MixR w0 w13 db rb (k + 1)) := ⟨⟨_, HT12.out.below hd13.below, HI'.out, HIR'.out⟩⟩
      have hk9 : k < 300 := HKN.out
      clear hd13 hsm
      go_wp2_with fail
      go_roundw
      case rel => exact ⟨k + 1, by have := HLT.out; omega, by go_num, HN⟩
      case measure => simp [intOf]; have := HLT.out; omega
    · obtain ⟨M, hT, hI, hIR⟩ := HR.out
      have hn : ¬ k < E.length := hlt
      have hk3 : k ≤ 300 := by have := HL3.out; omega
      have HT := Aside0.mk hT
      have HAll := Aside0.mk (mixAll hI hIR (by omega))
      have hrd := hT.a1.read (fun i => Nat.le_trans (hI.fits i) (by omega)) nm (by have := HNM.out; unfold maxLen; omega)
      clear hT hI hIR HR
      go_wp2_with fail
      refine hrd.mono ?_
      rintro e w9 ⟨rfl, rfl⟩
      have hrr := HT.out.readR HAll.out nm
      clear hrd
      go_wp2_with fail
      refine hrr.mono ?_
      rintro e w10 ⟨rfl, hd10⟩
      have HT10 := Aside0.mk (HT.out.below hd10.below)
      clear hrr hd10
      generalize readF M nm.data.toList = rdd at *
      go_wp2
      go_ret
      exact ⟨by simp, HT10.out.bel⟩
end Go.Proofs.Ytephblclhojffaa.A
