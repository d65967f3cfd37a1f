/- What a disk holds, step by step; plain. -/
import Derived.Test.YtephblclhojffaaAx0
import Derived.Test.YtephblclhojffaaHDoes
namespace Go.Proofs.Ytephblclhojffaa.A
set_option linter.unusedVariables false
set_option linter.unusedSimpArgs false

def lenOf (F : List (Bs × Nat)) (p : Bs × Nat) : Nat := (F.getD p.2 ([], 0)).1.length
def heldD (F : List (Bs × Nat)) (d : Dir) : Nat := (d.map (lenOf F)).sum
theorem held_eq (M : DM) : held M = heldD M.files M.dir := rfl
theorem heldD_perm {F : List (Bs × Nat)} {d d' : Dir} (h : d.Perm d') : heldD F d = heldD F d' := (h.map (lenOf F)).sum_nat
theorem heldD_cons (F : List (Bs × Nat)) (p : Bs × Nat) (d : Dir) : heldD F (p :: d) = lenOf F p + heldD F d := by simp [heldD]
theorem heldD_filter (F : List (Bs × Nat)) (f : Bs × Nat → Bool) : ∀ d : Dir, heldD F (d.filter f) ≤ heldD F d
  | [] => Nat.le_refl _
  | p :: r => by
    have ih := heldD_filter F f r
    rw [List.filter_cons, heldD_cons]
    split
    · rw [heldD_cons]; omega
    · omega
/-- Without a name there is less, by that file. -/
theorem heldD_del (F : List (Bs × Nat)) {a : Bs} {f : Nat} : ∀ {d : Dir}, (a, f) ∈ d → lenOf F (a, f) + heldD F (dDel d a) ≤ heldD F d
  | [], h => by simp at h
  | p :: r, h => by
    have ih := fun h => heldD_del F (a := a) (f := f) (d := r) h
    unfold dDel at ih ⊢
    rw [List.filter_cons, heldD_cons]
    rcases List.mem_cons.1 h with e | h'
    · subst e
      have := heldD_filter F (fun q => !(q.1 == a)) r
      simp only [beq_self_eq_true, Bool.not_true, Bool.false_eq_true, if_false]
      omega
    · have := ih h'
      split
      · rw [heldD_cons]; omega
      · omega
theorem heldD_put (F : List (Bs × Nat)) (d : Dir) (k : Bs) (f : Nat) : heldD F (dPut d k f) ≤ lenOf F (k, f) + heldD F d := by
  rw [heldD_perm (dPut_perm d k f), heldD_cons]
  have := heldD_filter F (fun p => !(p.1 == k)) d
  unfold dDel
  omega
theorem heldD_ren (F : List (Bs × Nat)) (d : Dir) (a b : Bs) (f : Nat) (h : dGet d a = some f) : heldD F (dDel (dPut d b f) a) ≤ heldD F d := by
  rw [heldD_perm (ren_perm d a b f)]
  have h1 := heldD_del F (dGet_mem h)
  have e1 : lenOf F (b, f) = lenOf F (a, f) := rfl
  unfold dDel at h1 ⊢
  rw [List.filter_cons]
  have h2 : heldD F ((d.filter fun p => !(p.1 == b)).filter fun p => !(p.1 == a)) ≤ heldD F (d.filter fun p => !(p.1 == a)) := by
    rw [List.filter_filter]
    have e : (fun p : Bs × Nat => !(p.1 == a) && !(p.1 == b)) = fun p => !(p.1 == b) && !(p.1 == a) := by funext p; rw [Bool.and_comm]
    rw [e, ← List.filter_filter]
    exact heldD_filter F _ _
  split
  · rw [heldD_cons]; omega
  · omega
theorem heldD_same {F F' : List (Bs × Nat)} (h : ∀ i, (F'.getD i ([], 0)).1.length = (F.getD i ([], 0)).1.length) (d : Dir) : heldD F' d = heldD F d := by
  unfold heldD
  congr 1
  exact List.map_congr_left fun p _ => h p.2
theorem heldD_modify {F : List (Bs × Nat)} {i n : Nat} {g : Bs × Nat → Bs × Nat} (hi : i < F.length) (hg : ∀ x, (g x).1.length = x.1.length + n) : ∀ {d : Dir}, (d.map (·.2)).Nodup → heldD (F.modify i g) d ≤ heldD F d + (if i ∈ d.map (·.2) then n else 0)
  | [], _ => by simp [heldD]
  | p :: r, h => by
    rw [List.map_cons, List.nodup_cons] at h
    have ih := heldD_modify hi hg h.2
    rw [heldD_cons, heldD_cons]
    have e : lenOf (F.modify i g) p = lenOf F p + if i = p.2 then n else 0 := by
      unfold lenOf
      rw [getD_modify F i p.2 g hi]
      split
      · rw [hg]
      · rfl
    rw [e, List.map_cons]
    by_cases h1 : i = p.2
    · subst h1
      rw [if_neg h.1] at ih
      rw [if_pos rfl, if_pos (by simp)]
      omega
    · rw [if_neg h1]
      by_cases h2 : i ∈ r.map (·.2)
      · rw [if_pos h2] at ih
        rw [if_pos (by simp [h2])]
        omega
      · rw [if_neg h2] at ih
        rw [if_neg (by simp only [List.mem_cons, not_or]; exact ⟨h1, h2⟩)]
        omega
/-- The errors that a step may have. -/
theorem callE_val (M : DM) : callE M ≠ 10 := by unfold callE; split <;> (try split) <;> decide
def spaceOk (M : DM) : Prop := (held M : Int) ≤ M.space
theorem space_step {M : DM} {n t : Nat} (hI : Inv M n t) (hs : spaceOk M) (k : Int) (hk : k = 0 ∨ k = 1 ∨ k = 2 ∨ k = 3 ∨ k = 4 ∨ k = 5 ∨ k = 7 ∨ k = 8) (a b : Bs) (x : Int) (keep : List Int) :
    spaceOk (doesF M k a b x keep).1 ∧ (doesF M k a b x keep).1.space = M.space ∧ ((doesF M k a b x keep).2 = 10 → k = 1) := by
  have hne := callE_val M
  have ht : spaceOk (tick M) := hs
  unfold spaceOk at hs
  rcases hk with rfl | rfl | rfl | rfl | rfl | rfl | rfl | rfl
  · show spaceOk (createF M a).1 ∧ (createF M a).1.space = M.space ∧ ((createF M a).2 = 10 → _)
    unfold createF
    split
    · exact ⟨ht, rfl, fun h => absurd h hne⟩
    · split
      · exact ⟨ht, rfl, fun h => by simp at h⟩
      · refine ⟨?_, rfl, fun h => by simp at h⟩
        show (held _ : Int) ≤ M.space
        have h1 := heldD_put (M.files ++ [([], 0)]) M.dir a M.files.length
        have h2 : heldD (M.files ++ [([], 0)]) M.dir = heldD M.files M.dir := heldD_same (fun i => by rw [getD_push]) _
        have h3 : lenOf (M.files ++ [([], 0)]) (a, M.files.length) = 0 := by simp [lenOf, List.getD_eq_getElem?_getD]
        have h4 := held_eq M
        show ((heldD (M.files ++ [([], 0)]) (dPut M.dir a M.files.length) : Nat) : Int) ≤ M.space
        omega
  · show spaceOk (appendF M a b).1 ∧ (appendF M a b).1.space = M.space ∧ ((appendF M a b).2 = 10 → _)
    unfold appendF
    split
    · exact ⟨ht, rfl, fun h => absurd h hne⟩
    · split
      · exact ⟨ht, rfl, fun h => by simp at h⟩
      · rename_i i hg
        split
        · exact ⟨ht, rfl, fun _ => rfl⟩
        · rename_i hlt
          refine ⟨?_, rfl, fun h => by simp at h⟩
          have hi : i < M.files.length := hI.dirP.val _ (dGet_mem hg)
          have h1 := heldD_modify (F := M.files) (i := i) (n := b.length) (g := fun f => (f.1 ++ b, f.2)) hi (fun x => by simp) hI.dirP.nodup
          show ((heldD (M.files.modify i fun f => (f.1 ++ b, f.2)) M.dir : Nat) : Int) ≤ M.space
          have h2 := held_eq M
          split at h1 <;> omega
  · show spaceOk (syncF M a).1 ∧ (syncF M a).1.space = M.space ∧ ((syncF M a).2 = 10 → _)
    unfold syncF
    split
    · exact ⟨ht, rfl, fun h => absurd h hne⟩
    · split
      · exact ⟨ht, rfl, fun h => by simp at h⟩
      · rename_i i hg
        refine ⟨?_, rfl, fun h => by simp at h⟩
        have hi : i < M.files.length := hI.dirP.val _ (dGet_mem hg)
        show ((heldD (M.files.modify i fun f => (f.1, f.1.length)) M.dir : Nat) : Int) ≤ M.space
        rw [heldD_same (F := M.files) (fun j => by rw [getD_modify _ _ _ _ hi]; split <;> rfl), ← held_eq]
        exact hs
  · show spaceOk (renameF M a b).1 ∧ (renameF M a b).1.space = M.space ∧ ((renameF M a b).2 = 10 → _)
    unfold renameF
    split
    · exact ⟨ht, rfl, fun h => absurd h hne⟩
    · split
      · exact ⟨ht, rfl, fun h => by simp at h⟩
      · rename_i h1 h2
        refine ⟨?_, rfl, fun h => by simp at h⟩
        simp only [Bool.or_eq_true, not_or, Bool.not_eq_true, Option.isNone_eq_false_iff] at h2
        obtain ⟨f, hf⟩ := Option.isSome_iff_exists.1 h2.1.1
        have e : Chg.app M.dir (.ren a b) = dDel (dPut M.dir b f) a := by simp [Chg.app, hf]
        have h3 := heldD_ren M.files M.dir a b f hf
        have h4 := held_eq M
        show ((heldD M.files (Chg.app M.dir (.ren a b)) : Nat) : Int) ≤ M.space
        rw [e]
        omega
  · show spaceOk (removeF M a).1 ∧ (removeF M a).1.space = M.space ∧ ((removeF M a).2 = 10 → _)
    unfold removeF
    split
    · exact ⟨ht, rfl, fun h => absurd h hne⟩
    · split
      · exact ⟨ht, rfl, fun h => by simp at h⟩
      · refine ⟨?_, rfl, fun h => by simp at h⟩
        have h3 := heldD_filter M.files (fun p => !(p.1 == a)) M.dir
        have h4 := held_eq M
        show ((heldD M.files (dDel M.dir a) : Nat) : Int) ≤ M.space
        unfold dDel
        omega
  · show spaceOk (syncDirF M).1 ∧ (syncDirF M).1.space = M.space ∧ ((syncDirF M).2 = 10 → _)
    unfold syncDirF
    split
    · exact ⟨ht, rfl, fun h => absurd h hne⟩
    · exact ⟨ht, rfl, fun h => by simp at h⟩
  · exact ⟨hs, rfl, fun h => by simp [doesF] at h⟩
  · exact ⟨hs, rfl, fun h => by simp [doesF] at h⟩
theorem crash_space (M : DM) (k : Int) (keep : List Int) : (crashF M k keep).space = M.space := rfl
end Go.Proofs.Ytephblclhojffaa.A
