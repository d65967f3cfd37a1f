/- What was synced outlives a crash, and what a crash leaves is a beginning; plain. -/
import Derived.Test.YtephblclhojffaaAx0
import Derived.Test.YtephblclhojffaaAx2
import Derived.Test.YtephblclhojffaaHAtO
namespace Go.Proofs.Ytephblclhojffaa.A
open Go.RowKit Go.Proofs.YtephblclhojffaaW.PrintWords Go.Proofs.YtephblclhojffaaW.PrintLast Go.Proofs.YtephblclhojffaaW.PrintMore
set_option linter.unusedVariables false
set_option linter.unusedSimpArgs false

def sureB : Bs := [115, 117, 114, 101]
/-- A crash leaves beginnings that hold what is sure. -/
theorem cutAll_pre (keep : List Int) (j : Nat) : ∀ (d : Dir) (i : Nat) (F : List (Bs × Nat)), SureOk F → (∀ p ∈ d, p.2 < F.length) →
    (∃ n, ((cutAll keep i d F).getD j ([], 0)).1 = (F.getD j ([], 0)).1.take n) ∧ (F.getD j ([], 0)).2 ≤ ((cutAll keep i d F).getD j ([], 0)).2
  | [], i, F, _, _ => ⟨⟨(F.getD j ([], 0)).1.length, by rw [List.take_length]; rfl⟩, Nat.le_refl _⟩
  | p :: r, i, F, hs, hv => by
    have hp := hv p (by simp)
    obtain ⟨⟨n, h1⟩, h2⟩ := cutAll_pre keep j r (i + 1) (F.modify p.2 (cutF (moreF keep i))) (hs.modify p.2 _ hp) (fun q hq => by rw [List.length_modify]; exact hv q (by simp [hq]))
    have e := getD_modify F p.2 j (cutF (moreF keep i)) hp
    unfold cutAll
    rw [e] at h1 h2
    split at h1
    · rename_i hj
      rw [if_pos hj] at h2
      refine ⟨⟨min n ((F.getD j ([], 0)).2 + min (moreF keep i) ((F.getD j ([], 0)).1.length - (F.getD j ([], 0)).2)), ?_⟩, ?_⟩
      · rw [h1]; unfold cutF; rw [List.take_take]
      · refine Nat.le_trans ?_ h2; unfold cutF; simp only; omega
    · rename_i hj
      rw [if_neg hj] at h2
      exact ⟨⟨n, h1⟩, h2⟩
/-- The file that is written, on a disk that refuses nothing. -/
structure Su (M : DM) (n : Nat) (all : Bs) (su : Nat) : Prop where
  inv : Inv M n (n * 1048576)
  get : ∃ f, dGet M.dir sureB = some f ∧ M.files.getD f ([], 0) = (all, su)
  halt : M.halt = never
  deny : M.deny = never
  space : M.space = 1099511627776
theorem calls_ok {M : DM} {n : Nat} {t : Nat} (hI : Inv M n t) (h1 : M.halt = never) (h2 : M.deny = never) (hn : n ≤ 1000) : callE M = 0 := by
  have h3 := hI.c1
  unfold callE
  rw [h1, h2]
  unfold never
  rw [if_neg (by omega), if_neg (by omega)]
theorem Inv.heldLe {M : DM} {n t : Nat} (hI : Inv M n t) : held M ≤ n * t := by
  rw [← heldTo_all]
  exact Nat.le_trans (heldTo_le M t hI.fits _) (Nat.mul_le_mul_right _ hI.dirL)
theorem Su.lt {M : DM} {n : Nat} {all : Bs} {su f : Nat} (h : Su M n all su) (hg : dGet M.dir sureB = some f) : f < M.files.length := h.inv.dirP.val _ (dGet_mem hg)
theorem Su.append {M : DM} {n : Nat} {all : Bs} {su : Nat} (h : Su M n all su) (hn : n ≤ 400) (s : Bs) (hs : s.length ≤ 1048576) :
    (appendF M sureB s).2 = 0 ∧ Su (appendF M sureB s).1 (n + 1) (all ++ s) su ∧ (appendF M sureB s).1.sdir = M.sdir ∧ (appendF M sureB s).1.chg = M.chg ∧ (appendF M sureB s).1.dir = M.dir := by
  obtain ⟨f, hg, hf⟩ := h.get
  have hi := (inv_append h.inv sureB s).mono (Nat.le_refl _) (show n * 1048576 + s.length ≤ (n + 1) * 1048576 by rw [Nat.succ_mul]; omega)
  have hc := calls_ok h.inv h.halt h.deny (by omega)
  have hh := h.inv.heldLe
  have hh2 : n * (n * 1048576) ≤ 400 * (400 * 1048576) := Nat.mul_le_mul hn (Nat.mul_le_mul_right _ hn)
  have e : appendF M sureB s = ({ tick M with files := M.files.modify f fun f => (f.1 ++ s, f.2) }, 0) := by
    unfold appendF
    rw [if_neg (by simp [hc])]
    simp only [hg]
    rw [if_neg (by rw [h.space]; omega)]
  rw [e] at hi ⊢
  refine ⟨rfl, ⟨hi, ⟨f, hg, ?_⟩, h.halt, h.deny, h.space⟩, rfl, rfl, rfl⟩
  show (M.files.modify f fun f => (f.1 ++ s, f.2)).getD f ([], 0) = _
  rw [getD_modify M.files f f _ (h.lt hg), if_pos rfl, hf]
theorem Su.sync {M : DM} {n : Nat} {all : Bs} {su : Nat} (h : Su M n all su) (hn : n ≤ 400) : (syncF M sureB).2 = 0 ∧ Su (syncF M sureB).1 (n + 1) all all.length := by
  obtain ⟨f, hg, hf⟩ := h.get
  have hi := (inv_sync h.inv sureB).mono (Nat.le_refl _) (show n * 1048576 ≤ (n + 1) * 1048576 by rw [Nat.succ_mul]; omega)
  have hc := calls_ok h.inv h.halt h.deny (by omega)
  have e : syncF M sureB = ({ tick M with files := M.files.modify f fun f => (f.1, f.1.length) }, 0) := by
    unfold syncF
    rw [if_neg (by simp [hc])]
    simp only [hg]
  rw [e] at hi ⊢
  refine ⟨rfl, ⟨hi, ⟨f, hg, ?_⟩, h.halt, h.deny, h.space⟩⟩
  show (M.files.modify f fun f => (f.1, f.1.length)).getD f ([], 0) = _
  rw [getD_modify M.files f f _ (h.lt hg), if_pos rfl, hf]
theorem Su.syncDir {M : DM} {n : Nat} {all : Bs} {su : Nat} (h : Su M n all su) (hn : n ≤ 400) : (syncDirF M).2 = 0 ∧ Su (syncDirF M).1 (n + 1) all su ∧ (syncDirF M).1.sdir = (syncDirF M).1.dir ∧ (syncDirF M).1.chg = [] := by
  obtain ⟨f, hg, hf⟩ := h.get
  have hi := (inv_syncDir h.inv).mono (Nat.le_refl _) (show n * 1048576 ≤ (n + 1) * 1048576 by rw [Nat.succ_mul]; omega)
  have hc := calls_ok h.inv h.halt h.deny (by omega)
  have e : syncDirF M = ({ tick M with sdir := M.dir, chg := [] }, 0) := by
    unfold syncDirF
    rw [if_neg (by simp [hc])]
  rw [e] at hi ⊢
  exact ⟨rfl, ⟨hi, ⟨f, hg, hf⟩, h.halt, h.deny, h.space⟩, rfl, rfl⟩
/-- The crash at the end. -/
theorem Su.crash {M : DM} {n : Nat} {all : Bs} {su : Nat} (h : Su M n all su) (hs : M.sdir = M.dir) (hc : M.chg = []) (x : Int) (keep : List Int) :
    ∃ m, readF (crashF M x keep) sureB = (all.take m, 0) ∧ su ≤ (all.take m).length := by
  obtain ⟨f, hg, hf⟩ := h.get
  have hd := firm_crash_dir hs hc x keep
  obtain ⟨⟨m, h1⟩, h2⟩ := cutAll_pre keep f (replay M.sdir (M.chg.take x.toNat)) 0 M.files h.inv.sure (fun q hq => (h.inv.pre x.toNat).val q hq)
  have hsu := (h.inv.crash x keep).sure f
  rw [hf] at h1 h2
  refine ⟨m, ?_, ?_⟩
  · unfold readF
    rw [hd, hg]
    exact congrArg (·, (0 : Int)) h1
  · rw [← h1]
    exact Nat.le_trans h2 hsu
theorem dGet_put_self (d : Dir) (k : Bs) (f : Nat) : dGet (dPut d k f) k = some f := by
  have hp := dPut_perm d k f
  have hm : (k, f) ∈ dPut d k f := hp.mem_iff.2 (by simp)
  cases hg : dGet (dPut d k f) k with
  | none =>
    unfold dGet at hg
    rw [Option.map_eq_none_iff, List.find?_eq_none] at hg
    exact absurd (hg _ hm) (by simp)
  | some g =>
    have h2 := hp.mem_iff.1 (dGet_mem hg)
    rcases List.mem_cons.1 h2 with e | e
    · rw [(Prod.mk.inj e).2]
    · unfold dDel at e
      simp at e
/-- The file is made, or it is there. -/
theorem su_create {M : DM} {n : Nat} (hI : Inv M n (n * 1048576)) (h1 : M.halt = never) (h2 : M.deny = never) (hn : n ≤ 400) :
    ((createF M sureB).2 = 0 ∧ Su (spaceF (createF M sureB).1 1099511627776) (n + 1) [] 0 ∧ Inv (createF M sureB).1 (n + 1) ((n + 1) * 1048576)) ∨ ((createF M sureB).2 = 12 ∧ Inv (createF M sureB).1 (n + 1) ((n + 1) * 1048576) ∧ ∃ f, (sureB, f) ∈ (createF M sureB).1.dir) := by
  have hi := (inv_create hI sureB).mono (Nat.le_refl _) (show n * 1048576 ≤ (n + 1) * 1048576 by rw [Nat.succ_mul]; omega)
  have hc := calls_ok hI h1 h2 (by omega)
  by_cases hg : (dGet M.dir sureB).isSome = true
  · have e : createF M sureB = (tick M, 12) := by
      unfold createF
      rw [if_neg (by simp [hc]), if_pos (by simp [hg])]
    rw [e] at hi ⊢
    obtain ⟨f, hf⟩ := Option.isSome_iff_exists.1 hg
    exact .inr ⟨rfl, hi, f, dGet_mem hf⟩
  · have hr : rightB sureB = true := by decide
    have e : createF M sureB = ({ tick M with files := M.files ++ [([], 0)], dir := dPut M.dir sureB M.files.length, chg := M.chg ++ [.mk sureB M.files.length] }, 0) := by
      unfold createF
      rw [if_neg (by simp [hc]), if_neg (by simp only [hr]; simpa using hg)]
    rw [e] at hi ⊢
    refine .inl ⟨rfl, ⟨hi.space 1099511627776 (by omega), ⟨M.files.length, ?_, ?_⟩, h1, h2, rfl⟩, hi⟩
    · show dGet (dPut M.dir sureB M.files.length) sureB = some M.files.length
      exact dGet_put_self _ _ _
    · show (M.files ++ [([], 0)]).getD M.files.length ([], 0) = ([], 0)
      simp [List.getD_eq_getElem?_getD]

/-! ### the laws' has -/
theorem has_go (l : List ByteArray) (s : ByteArray) (hl : l.length < 9223372036854775807) (i : Nat) (hi : i < l.length) (he : l[i] = s) : ∀ (n k : Nat), k + n = i → tithebarnlaw09_has.l0 (n + 1) l s (k : Int) = some true
  | 0, k, h => by
    obtain rfl : k = i := by omega
    unfold tithebarnlaw09_has.l0
    rw [if_pos (by omega), if_pos (by omega), if_pos (by simp [rdOf, hi, he])]
  | n + 1, k, h => by
    unfold tithebarnlaw09_has.l0
    rw [if_pos (by omega), if_pos (by omega)]
    split
    · rfl
    · have hw : wrap64 ((k : Int) + 1) = ((k + 1 : Nat) : Int) := by rw [Int.natCast_add]; unfold wrap64; omega
      rw [hw]
      exact has_go l s hl i hi he n (k + 1) (by omega)
theorem has_calls (l : List ByteArray) (s : ByteArray) (hl : l.length < 9223372036854775807) (hm : s ∈ l) (A0 : Option Addr) (c0 : Nat) (w : World) (h0 : Kd.C Kd.string w A0 l.length l) (hc0 : l.length ≤ c0) :
    Calls Try.prog 27 #[.slice A0 l.length c0, .string s] w fun e w' => e = .returned (.bool true) ∧ Drawn0 w w' := by
  obtain ⟨i, hi, he⟩ := List.getElem_of_mem hm
  exact tithebarnlaw09_has.calls (i + 1) A0 c0 l s true w h0 hc0 (has_go l s hl i hi he i 0 (by omega))
end Go.Proofs.Ytephblclhojffaa.A
