/- What holds of a disk behind any calls; plain. -/
import Derived.Test.YtephblclhojffaaAx0
import Derived.Test.YtephblclhojffaaHCrash2
namespace Go.Proofs.Ytephblclhojffaa.A
set_option linter.unusedVariables false
set_option linter.unusedSimpArgs false

theorem dIns_perm (x : Bs × Nat) : ∀ d : Dir, (dIns x d).Perm (x :: d)
  | [] => .refl _
  | y :: r => by
    unfold dIns
    split
    · exact .refl _
    · exact (List.Perm.cons y (dIns_perm x r)).trans (List.Perm.swap x y r)
theorem dPut_perm (d : Dir) (k : Bs) (f : Nat) : (dPut d k f).Perm ((k, f) :: dDel d k) := dIns_perm _ _
theorem ren_perm (d : Dir) (a b : Bs) (f : Nat) : (dDel (dPut d b f) a).Perm (dDel ((b, f) :: dDel d b) a) := (dPut_perm d b f).filter _
/-- Names may be, files are there, no file has two names. -/
structure P1 (nf : Nat) (d : Dir) : Prop where
  val : ∀ p ∈ d, p.2 < nf
  right : ∀ p ∈ d, rightB p.1 = true
  nodup : (d.map (·.2)).Nodup
theorem P1.mono {nf nf' : Nat} {d : Dir} (h : P1 nf d) (hn : nf ≤ nf') : P1 nf' d := ⟨fun p hp => Nat.lt_of_lt_of_le (h.val p hp) hn, h.right, h.nodup⟩
theorem P1.nil (nf : Nat) : P1 nf [] := ⟨by simp, by simp, by simp⟩
theorem P1.perm {nf : Nat} {d d' : Dir} (h : P1 nf d) (hp : d'.Perm d) : P1 nf d' := ⟨fun p hm => h.val p (hp.mem_iff.1 hm), fun p hm => h.right p (hp.mem_iff.1 hm), ((hp.map _).nodup_iff).2 h.nodup⟩
theorem P1.sub {nf : Nat} {d d' : Dir} (h : P1 nf d) (hs : d'.Sublist d) : P1 nf d' := ⟨fun p hm => h.val p (hs.subset hm), fun p hm => h.right p (hs.subset hm), h.nodup.sublist (hs.map _)⟩
theorem P1.del {nf : Nat} {d : Dir} (h : P1 nf d) (k : Bs) : P1 nf (dDel d k) := h.sub List.filter_sublist
theorem P1.put {nf : Nat} {d : Dir} (h : P1 nf d) {k : Bs} (hk : rightB k = true) : P1 (nf + 1) (dPut d k nf) := by
  have hd := h.del k
  refine P1.perm ⟨fun p hp => ?_, fun p hp => ?_, ?_⟩ (dPut_perm d k nf)
  · rcases List.mem_cons.1 hp with rfl | hp
    · exact Nat.lt_succ_self _
    · exact Nat.lt_succ_of_lt (hd.val p hp)
  · rcases List.mem_cons.1 hp with rfl | hp
    · exact hk
    · exact hd.right p hp
  · rw [List.map_cons, List.nodup_cons]
    refine ⟨fun hm => ?_, hd.nodup⟩
    obtain ⟨p, hp, e⟩ := List.mem_map.1 hm
    have := hd.val p hp
    simp only at e
    omega
theorem inj_of_nodup : ∀ {d : Dir}, (d.map (·.2)).Nodup → ∀ {p q : Bs × Nat}, p ∈ d → q ∈ d → p.2 = q.2 → p = q
  | [], _, p, q, hp, _, _ => by simp at hp
  | x :: r, h, p, q, hp, hq, e => by
    rw [List.map_cons, List.nodup_cons] at h
    have key : ∀ y : Bs × Nat, y ∈ r → y.2 ≠ x.2 := fun y hy e2 => h.1 (e2 ▸ List.mem_map_of_mem (f := (·.2)) hy)
    rcases List.mem_cons.1 hp with e1 | hp1
    · rcases List.mem_cons.1 hq with e2 | hq1
      · rw [e1, e2]
      · exact absurd (by rw [← e, e1]) (key q hq1)
    · rcases List.mem_cons.1 hq with e2 | hq1
      · exact absurd (by rw [e, e2]) (key p hp1)
      · exact inj_of_nodup h.2 hp1 hq1 e
theorem P1.ren {nf : Nat} {d : Dir} (h : P1 nf d) {a b : Bs} {f : Nat} (hg : dGet d a = some f) (hb : rightB b = true) : P1 nf (dDel (dPut d b f) a) := by
  have hm := dGet_mem hg
  refine P1.perm ?_ (ren_perm d a b f)
  unfold dDel
  rw [List.filter_cons]
  have hsub : ((d.filter fun p => !(p.1 == b)).filter fun p => !(p.1 == a)).Sublist d := List.filter_sublist.trans List.filter_sublist
  have hP := h.sub hsub
  split
  · refine ⟨fun p hp => ?_, fun p hp => ?_, ?_⟩
    · rcases List.mem_cons.1 hp with rfl | hp
      · exact h.val (a, f) hm
      · exact hP.val p hp
    · rcases List.mem_cons.1 hp with rfl | hp
      · exact hb
      · exact hP.right p hp
    · rw [List.map_cons, List.nodup_cons]
      refine ⟨fun hmem => ?_, hP.nodup⟩
      obtain ⟨p, hp, e⟩ := List.mem_map.1 hmem
      have := inj_of_nodup h.nodup (hsub.subset hp) hm e
      subst this
      simp at hp
  · exact hP

structure Inv (M : DM) (n t : Nat) : Prop where
  c0 : 0 ≤ M.calls
  c1 : M.calls ≤ n
  s0 : 0 ≤ M.space
  s1 : M.space ≤ 9223372036854775807
  pre : ∀ k, P1 M.files.length (replay M.sdir (M.chg.take k))
  len : ∀ k, (replay M.sdir (M.chg.take k)).length ≤ n
  cl : M.chg.length ≤ n
  ok : ChgOk M
  full : replay M.sdir M.chg = M.dir
  fits : Fits M t
  sure : SureOk M.files
theorem Inv.mono {M : DM} {n n' t t' : Nat} (h : Inv M n t) (hn : n ≤ n') (ht : t ≤ t') : Inv M n' t' :=
  ⟨h.c0, by have := h.c1; omega, h.s0, h.s1, h.pre, fun k => Nat.le_trans (h.len k) hn, Nat.le_trans h.cl hn, h.ok, h.full, fun i => Nat.le_trans (h.fits i) ht, h.sure⟩
theorem Inv.dirP {M : DM} {n t : Nat} (h : Inv M n t) : P1 M.files.length M.dir := by
  have := h.pre M.chg.length
  rwa [List.take_length, h.full] at this
theorem Inv.dirL {M : DM} {n t : Nat} (h : Inv M n t) : M.dir.length ≤ n := by
  have := h.len M.chg.length
  rwa [List.take_length, h.full] at this
theorem Inv.sdirL {M : DM} {n t : Nat} (h : Inv M n t) : M.sdir.length ≤ n := h.len 0
theorem Inv.tick {M : DM} {n t : Nat} (h : Inv M n t) : Inv (tick M) (n + 1) t :=
  ⟨by have := h.c0; show 0 ≤ M.calls + 1; omega, by have := h.c1; show M.calls + 1 ≤ _; omega, h.s0, h.s1, h.pre, fun k => Nat.le_succ_of_le (h.len k), Nat.le_succ_of_le h.cl, h.ok, h.full, h.fits, h.sure⟩
theorem mx0_range (n : Int) : 0 ≤ mx0 n := by unfold mx0; split <;> omega
theorem mx0_le (n : Int) (h : n ≤ 9223372036854775807) : mx0 n ≤ 9223372036854775807 := by unfold mx0; split <;> omega
theorem Inv.space {M : DM} {n t : Nat} (h : Inv M n t) (s : Int) (hs : s ≤ 9223372036854775807) : Inv (spaceF M s) n t := ⟨h.c0, h.c1, mx0_range s, mx0_le s hs, h.pre, h.len, h.cl, h.ok, h.full, h.fits, h.sure⟩
theorem Inv.halt {M : DM} {n t : Nat} (h : Inv M n t) (a b : Int) : Inv { M with halt := a, deny := b } n t := ⟨h.c0, h.c1, h.s0, h.s1, h.pre, h.len, h.cl, h.ok, h.full, h.fits, h.sure⟩
theorem getD_push (F : List (Bs × Nat)) (i : Nat) : (F ++ [([], 0)]).getD i ([], 0) = F.getD i ([], 0) := by
  simp only [List.getD_eq_getElem?_getD, List.getElem?_append]
  split
  · rfl
  · rename_i h
    rw [List.getElem?_eq_none (by omega : F.length ≤ i)]
    cases hi : i - F.length with
    | zero => rfl
    | succ j => simp
theorem Chg.ok_mono {nf nf' : Nat} {d : Dir} {c : Chg} (h : c.ok nf d) (hn : nf ≤ nf') : c.ok nf' d := by
  cases c with
  | mk k f => exact Nat.lt_of_lt_of_le h hn
  | ren a b => exact h
  | rm a => trivial
theorem Inv.file {M : DM} {n t : Nat} (h : Inv M n t) : Inv { M with files := M.files ++ [([], 0)] } n t :=
  ⟨h.c0, h.c1, h.s0, h.s1, fun k => (h.pre k).mono (by simp), h.len, h.cl, fun k c hc => Chg.ok_mono (h.ok k c hc) (by simp), h.full, fun i => by show ((M.files ++ [([], 0)]).getD i ([], 0)).1.length ≤ t; rw [getD_push]; exact h.fits i, fun i => by rw [getD_push]; exact h.sure i⟩
theorem take_push {α : Type} (l : List α) (x : α) (k : Nat) : (l ++ [x]).take k = l.take k ∨ (l ++ [x]).take k = l ++ [x] := by
  by_cases h : k ≤ l.length
  · left; rw [List.take_append_of_le_length h]
  · right; rw [List.take_of_length_le]; simp; omega
theorem Inv.push {M : DM} {n t : Nat} (h : Inv M n t) (c : Chg) (hok : c.ok M.files.length M.dir) (hP : P1 M.files.length (c.app M.dir)) : Inv { M with dir := c.app M.dir, chg := M.chg ++ [c] } (n + 1) t := by
  have hfull : replay M.sdir (M.chg ++ [c]) = c.app M.dir := by rw [replay_snoc, h.full]
  refine ⟨h.c0, by have := h.c1; show M.calls ≤ _; omega, h.s0, h.s1, fun k => ?_, fun k => ?_, ?_, fun k c' hc => ?_, hfull, h.fits, h.sure⟩
  · show P1 M.files.length (replay M.sdir ((M.chg ++ [c]).take k))
    rcases take_push M.chg c k with e | e
    · rw [e]; exact h.pre k
    · rw [e, hfull]; exact hP
  · show (replay M.sdir ((M.chg ++ [c]).take k)).length ≤ _
    rcases take_push M.chg c k with e | e
    · rw [e]; exact Nat.le_succ_of_le (h.len k)
    · rw [e, hfull]; exact Nat.le_trans (app_le _ _) (Nat.succ_le_succ h.dirL)
  · show (M.chg ++ [c]).length ≤ _
    rw [List.length_append]; exact Nat.succ_le_succ h.cl
  · show c'.ok M.files.length (replay M.sdir ((M.chg ++ [c]).take k))
    by_cases hk : k < M.chg.length
    · rw [List.take_append_of_le_length (Nat.le_of_lt hk)]
      rw [List.getElem?_append_left hk] at hc
      exact h.ok k c' hc
    · rw [List.getElem?_append_right (by omega)] at hc
      obtain ⟨e, rfl⟩ := one_get hc
      have : k = M.chg.length := by omega
      subst this
      rw [List.take_left, h.full]
      exact hok
theorem Inv.files {M : DM} {n t : Nat} (h : Inv M n t) (F : List (Bs × Nat)) (hl : F.length = M.files.length) {t' : Nat} (hf : ∀ i, (F.getD i ([], 0)).1.length ≤ t') (hs : SureOk F) : Inv { M with files := F } n t' :=
  ⟨h.c0, h.c1, h.s0, h.s1, fun k => by show P1 F.length _; rw [hl]; exact h.pre k, h.len, h.cl, fun k c hc => by show c.ok F.length _; rw [hl]; exact h.ok k c hc, h.full, hf, hs⟩
/-- The directory is another one, and sure. -/
theorem Inv.settle {M : DM} {n t : Nat} (h : Inv M n t) (d : Dir) (hP : P1 M.files.length d) (hl : d.length ≤ n) (a b : Int) : Inv { M with dir := d, sdir := d, chg := [], halt := a, deny := b } n t :=
  ⟨h.c0, h.c1, h.s0, h.s1, fun k => by show P1 _ (replay d (List.take k [])); rw [List.take_nil]; exact hP, fun k => by show (replay d (List.take k [])).length ≤ n; rw [List.take_nil]; exact hl, Nat.zero_le _, fun k c hc => by simp at hc, rfl, h.fits, h.sure⟩
theorem SureOk.cutAll {keep : List Int} : ∀ {d : Dir} {i : Nat} {F : List (Bs × Nat)}, SureOk F → (∀ p ∈ d, p.2 < F.length) → SureOk (cutAll keep i d F)
  | [], _, _, h, _ => h
  | p :: r, i, F, h, hv => SureOk.cutAll (d := r) (h.modify _ _ (hv p (by simp))) (fun q hq => by rw [List.length_modify]; exact hv q (by simp [hq]))
theorem cutAll_fits {keep : List Int} {t : Nat} : ∀ {d : Dir} {i : Nat} {F : List (Bs × Nat)}, SureOk F → (∀ p ∈ d, p.2 < F.length) → (∀ i, (F.getD i ([], 0)).1.length ≤ t) → ∀ j, ((cutAll keep i d F).getD j ([], 0)).1.length ≤ t
  | [], _, _, _, _, h => h
  | p :: r, i, F, hs, hv, h => cutAll_fits (d := r) (hs.modify _ _ (hv p (by simp))) (fun q hq => by rw [List.length_modify]; exact hv q (by simp [hq])) (fits_modify hs h _ _ (hv p (by simp)))
theorem Inv.crash {M : DM} {n t : Nat} (h : Inv M n t) (k : Int) (keep : List Int) : Inv (crashF M k keep) n t := by
  have hP := h.pre k.toNat
  have h1 := h.settle _ hP (h.len k.toNat) never never
  exact h1.files (cutAll keep 0 (replay M.sdir (M.chg.take k.toNat)) M.files) (cutAll_len _ _ _ _) (cutAll_fits h.sure hP.val h.fits) (h.sure.cutAll hP.val)
theorem Inv.syncDir {M : DM} {n t : Nat} (h : Inv M n t) : Inv { M with sdir := M.dir, chg := [] } n t := h.settle M.dir h.dirP h.dirL M.halt M.deny
theorem inv_new (s : Int) (hs : s ≤ 9223372036854775807) : Inv (newF s) 0 0 :=
  ⟨by simp [newF], by simp [newF], mx0_range s, mx0_le s hs, fun k => by show P1 0 (replay [] (List.take k [])); rw [List.take_nil]; exact P1.nil 0, fun k => by show (replay [] (List.take k [])).length ≤ 0; rw [List.take_nil]; exact Nat.le_refl _, Nat.le_refl _, fun k c hc => by simp [newF] at hc, rfl, fun i => by simp [newF], fun i => by simp [newF]⟩
theorem inv_create {M : DM} {n t : Nat} (h : Inv M n t) (k : Bs) : Inv (createF M k).1 (n + 1) t := by
  unfold createF
  split
  · exact h.tick
  · split
    · exact h.tick
    · rename_i h1 h2
      have hr : rightB k = true := by simp at h2; exact h2.2
      have hf := h.tick.file
      have hp := h.file.push (.mk k M.files.length) (by show M.files.length < _; simp) (by show P1 (M.files ++ [([], 0)]).length (dPut M.dir k M.files.length); rw [List.length_append]; exact h.dirP.put hr)
      exact ⟨hf.c0, hf.c1, hf.s0, hf.s1, hp.pre, hp.len, hp.cl, hp.ok, hp.full, hp.fits, hp.sure⟩
theorem inv_append {M : DM} {n t : Nat} (h : Inv M n t) (k s : Bs) : Inv (appendF M k s).1 (n + 1) (t + s.length) := by
  have ht := h.tick.mono (Nat.le_refl _) (Nat.le_add_right t s.length)
  unfold appendF
  split
  · exact ht
  · split
    · exact ht
    · rename_i i hg
      have hi : i < M.files.length := h.dirP.val _ (dGet_mem hg)
      split
      · exact ht
      · refine ht.files _ (by rw [List.length_modify]; rfl) (fun j => ?_) (fun j => ?_)
        · rw [getD_modify _ _ _ _ hi]
          have := h.fits j
          split
          · rw [List.length_append]; omega
          · omega
        · rw [getD_modify _ _ _ _ hi]
          have := h.sure j
          split
          · rw [List.length_append]; show (M.files.getD j ([], 0)).2 ≤ _; omega
          · exact this
theorem inv_sync {M : DM} {n t : Nat} (h : Inv M n t) (k : Bs) : Inv (syncF M k).1 (n + 1) t := by
  unfold syncF
  split
  · exact h.tick
  · split
    · exact h.tick
    · rename_i i hg
      have hi : i < M.files.length := h.dirP.val _ (dGet_mem hg)
      refine h.tick.files _ (by rw [List.length_modify]; rfl) (fun j => ?_) (fun j => ?_)
      · rw [getD_modify _ _ _ _ hi]
        have := h.fits j
        split <;> exact this
      · rw [getD_modify _ _ _ _ hi]
        split
        · exact Nat.le_refl _
        · exact h.sure j
theorem inv_rename {M : DM} {n t : Nat} (h : Inv M n t) (a b : Bs) : Inv (renameF M a b).1 (n + 1) t := by
  unfold renameF
  split
  · exact h.tick
  · split
    · exact h.tick
    · rename_i h1 h2
      simp only [Bool.or_eq_true, not_or, Bool.not_eq_true, Option.isNone_eq_false_iff] at h2
      obtain ⟨⟨h3, h4⟩, h5⟩ := h2
      obtain ⟨f, hf⟩ := Option.isSome_iff_exists.1 h3
      have hr : rightB b = true := by simpa using h5
      have ht := h.tick
      have e : Chg.app M.dir (.ren a b) = dDel (dPut M.dir b f) a := by simp [Chg.app, hf]
      have hp := h.push (.ren a b) h3 (by rw [e]; exact h.dirP.ren hf hr)
      exact ⟨ht.c0, ht.c1, ht.s0, ht.s1, hp.pre, hp.len, hp.cl, hp.ok, hp.full, hp.fits, hp.sure⟩
theorem inv_remove {M : DM} {n t : Nat} (h : Inv M n t) (a : Bs) : Inv (removeF M a).1 (n + 1) t := by
  unfold removeF
  split
  · exact h.tick
  · split
    · exact h.tick
    · have ht := h.tick
      have hp := h.push (.rm a) trivial (h.dirP.del a)
      exact ⟨ht.c0, ht.c1, ht.s0, ht.s1, hp.pre, hp.len, hp.cl, hp.ok, hp.full, hp.fits, hp.sure⟩
theorem inv_syncDir {M : DM} {n t : Nat} (h : Inv M n t) : Inv (syncDirF M).1 (n + 1) t := by
  unfold syncDirF
  split
  · exact h.tick
  · exact h.tick.syncDir
/-- A step, its kind told. -/
def doesF (M : DM) (k : Int) (a b : Bs) (n : Int) (keep : List Int) : DM × Int :=
  if k = 0 then createF M a else if k = 1 then appendF M a b else if k = 2 then syncF M a else if k = 3 then renameF M a b else if k = 4 then removeF M a else if k = 5 then syncDirF M
  else if k = 6 then (spaceF M n, 0) else if k = 7 then (stopF M n, 0) else if k = 8 then (refuseF M n, 0) else (crashF M n keep, 0)
theorem inv_does {M : DM} {n t : Nat} (h : Inv M n t) (k : Int) (a b : Bs) (x : Int) (hx : x ≤ 9223372036854775807) (keep : List Int) : Inv (doesF M k a b x keep).1 (n + 1) (t + b.length) := by
  have up : ∀ {M' : DM}, Inv M' (n + 1) t → Inv M' (n + 1) (t + b.length) := fun h => h.mono (Nat.le_refl _) (Nat.le_add_right _ _)
  have up0 : ∀ {M' : DM}, Inv M' n t → Inv M' (n + 1) (t + b.length) := fun h => h.mono (Nat.le_succ _) (Nat.le_add_right _ _)
  unfold doesF
  split; exact up (inv_create h a)
  split; exact inv_append h a b
  split; exact up (inv_sync h a)
  split; exact up (inv_rename h a b)
  split; exact up (inv_remove h a)
  split; exact up (inv_syncDir h)
  split; exact up0 (h.space x hx)
  split; exact up0 (h.halt _ _)
  split; exact up0 (h.halt _ _)
  exact up0 (h.crash x keep)
end Go.Proofs.Ytephblclhojffaa.A
