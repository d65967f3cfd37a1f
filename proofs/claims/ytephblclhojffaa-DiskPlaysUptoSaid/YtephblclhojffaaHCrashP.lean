/- What a crash leaves is there for good; plain. -/
import Derived.Test.YtephblclhojffaaAx0
import Derived.Test.YtephblclhojffaaHInv
import Derived.Test.YtephblclhojffaaHHeld
namespace Go.Proofs.Ytephblclhojffaa.A
set_option linter.unusedVariables false
set_option linter.unusedSimpArgs false

theorem cutF_id (m : Nat) {f : Bs × Nat} (h : f.1.length = f.2) : cutF m f = f := by
  unfold cutF
  rw [h, Nat.sub_self, Nat.min_zero, Nat.add_zero, ← h, List.take_length]
  exact Prod.ext rfl h
theorem cutF_firm (m : Nat) (f : Bs × Nat) (h : f.2 ≤ f.1.length) : (cutF m f).1.length = (cutF m f).2 := by
  unfold cutF
  simp only [List.length_take]
  omega
theorem cutAll_keep (keep : List Int) (j : Nat) : ∀ (d : Dir) (i : Nat) (F : List (Bs × Nat)), (∀ p ∈ d, p.2 < F.length) → (F.getD j ([], 0)).1.length = (F.getD j ([], 0)).2 → (cutAll keep i d F).getD j ([], 0) = F.getD j ([], 0)
  | [], i, F, _, _ => rfl
  | p :: r, i, F, hv, h => by
    have hp := hv p (by simp)
    have e : (F.modify p.2 (cutF (moreF keep i))).getD j ([], 0) = F.getD j ([], 0) := by
      rw [getD_modify F p.2 j _ hp]
      split
      · exact cutF_id _ h
      · rfl
    unfold cutAll
    rw [cutAll_keep keep j r (i + 1) _ (fun q hq => by rw [List.length_modify]; exact hv q (by simp [hq])) (by rw [e]; exact h), e]
theorem cutAll_firm (keep : List Int) {p : Bs × Nat} : ∀ (d : Dir) (i : Nat) (F : List (Bs × Nat)), SureOk F → (∀ q ∈ d, q.2 < F.length) → p ∈ d → ((cutAll keep i d F).getD p.2 ([], 0)).1.length = ((cutAll keep i d F).getD p.2 ([], 0)).2
  | [], i, F, _, _, hm => by simp at hm
  | q :: r, i, F, hs, hv, hm => by
    have hq := hv q (by simp)
    have hv' : ∀ x ∈ r, x.2 < (F.modify q.2 (cutF (moreF keep i))).length := fun x hx => by rw [List.length_modify]; exact hv x (by simp [hx])
    unfold cutAll
    rcases List.mem_cons.1 hm with rfl | hm'
    · have h1 : ((F.modify p.2 (cutF (moreF keep i))).getD p.2 ([], 0)).1.length = ((F.modify p.2 (cutF (moreF keep i))).getD p.2 ([], 0)).2 := by
        rw [getD_modify F p.2 p.2 _ hq, if_pos rfl]
        exact cutF_firm _ _ (hs p.2)
      rw [cutAll_keep keep p.2 r (i + 1) _ hv' h1]
      exact h1
    · exact cutAll_firm keep r (i + 1) _ (hs.modify q.2 _ hq) hv' hm'
/-- Every named file's bytes are sure. -/
def Firm (M : DM) : Prop := ∀ p ∈ M.dir, (M.files.getD p.2 ([], 0)).1.length = (M.files.getD p.2 ([], 0)).2
theorem crash_firm {M : DM} {n t : Nat} (hI : Inv M n t) (x : Int) (keep : List Int) : Firm (crashF M x keep) := fun p hp =>
  cutAll_firm keep _ 0 M.files hI.sure (fun q hq => (hI.pre x.toNat).val q hq) hp
theorem firm_crash_dir {M : DM} (hs : M.sdir = M.dir) (hc : M.chg = []) (x : Int) (keep : List Int) : (crashF M x keep).dir = M.dir := by
  unfold crashF; simp [hs, hc, replay]
theorem firm_crash_file {M : DM} {n t : Nat} (hI : Inv M n t) (hF : Firm M) (x : Int) (keep : List Int) {p : Bs × Nat} (hp : p ∈ M.dir) : (crashF M x keep).files.getD p.2 ([], 0) = M.files.getD p.2 ([], 0) :=
  cutAll_keep keep p.2 _ 0 M.files (fun q hq => (hI.pre x.toNat).val q hq) (hF p hp)
theorem crash_sdir (M : DM) (x : Int) (keep : List Int) : (crashF M x keep).sdir = (crashF M x keep).dir := rfl
theorem crash_chg (M : DM) (x : Int) (keep : List Int) : (crashF M x keep).chg = [] := rfl
/-- A second crash takes nothing. -/
theorem crash_twice {M : DM} {n t : Nat} (hI : Inv M n t) (x y : Int) (k1 k2 : List Int) :
    (crashF (crashF M x k1) y k2).dir = (crashF M x k1).dir ∧ ∀ k, readF (crashF (crashF M x k1) y k2) k = readF (crashF M x k1) k := by
  have hd := firm_crash_dir (crash_sdir M x k1) (crash_chg M x k1) y k2
  refine ⟨hd, fun k => ?_⟩
  unfold readF
  rw [hd]
  cases hg : dGet (crashF M x k1).dir k with
  | none => rfl
  | some i => simp only; rw [firm_crash_file (hI.crash x k1) (crash_firm hI x k1) y k2 (dGet_mem hg)]
theorem crash_calls (M : DM) (x : Int) (keep : List Int) : (crashF M x keep).calls = M.calls := rfl
theorem crash_callE {M : DM} {n t : Nat} (hI : Inv M n t) (hn : n < 1000000) (x : Int) (keep : List Int) : callE (crashF M x keep) = 0 := by
  have h1 := hI.c1
  unfold callE
  rw [crash_calls, show (crashF M x keep).halt = never from rfl, show (crashF M x keep).deny = never from rfl]
  unfold never
  rw [if_neg (by omega), if_neg (by omega)]
theorem crash_syncDir {M : DM} {n t : Nat} (hI : Inv M n t) (hn : n < 1000000) (x : Int) (keep : List Int) : (syncDirF (crashF M x keep)).2 = 0 := by
  unfold syncDirF
  rw [crash_callE hI hn, if_neg (by simp)]
theorem namesF_dir {M M' : DM} (h : M'.dir = M.dir) : namesF M' = namesF M := by unfold namesF; rw [h]
end Go.Proofs.Ytephblclhojffaa.A
