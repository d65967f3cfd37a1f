/- A file's bytes and mark are written: Sync, Append. -/
import Derived.Test.YtephblclhojffaaAx0
import Derived.Test.YtephblclhojffaaHHeld
namespace Go.Proofs.Ytephblclhojffaa.A
open Go.RowKit Go.Proofs.YtephblclhojffaaW.PrintWords Go.Proofs.YtephblclhojffaaW.PrintLast Go.Proofs.YtephblclhojffaaW.PrintMore
open Go.Maps
set_option linter.unusedVariables false
set_option linter.unusedSimpArgs false

section
variable {pl : Bool} {w w' : World} {own own' : Nat → Prop} {fb : List Nat} {db dm sm : Nat} {chs : Value} {sl xs : List Value} {M : DM}
theorem FilesR.put {F : List (Bs × Nat)} (h : FilesR pl w own fb sl F) {i b : Nat} {v : Value} (hb : fb[i]? = some b) (hv : sl[i]? = some v) (v' : Value) (f' : Bs × Nat) (ho : ∀ k, own k → own' k)
    (hk : ∀ k x t fr, own k → t = 59 ∨ t = 5 → k ≠ b → v.ownBlock ≠ some k → w.heap[k]? = some (.cells x t fr) → w'.heap[k]? = w.heap[k]?)
    (hb' : w'.heap[b]? = some (.cells #[v', .int .i64 f'.2] 59 (0, 0))) (hs : SlIs pl w' own' v' f'.1) (hnew : ∀ g, v'.ownBlock = some g → v.ownBlock = some g ∨ ¬ own g) : FilesR pl w' own' fb (sl.set i v') (F.set i f') := by
  have hi : i < sl.length := (List.getElem?_eq_some_iff.1 hv).1
  have old : ∀ (j : Nat) (u : Value) (g : Nat), sl[j]? = some u → u.ownBlock = some g → own g ∧ ∃ x fr, w.heap[g]? = some (.cells x 5 fr) := fun j u g hu hg => by
    have hj : j < sl.length := (List.getElem?_eq_some_iff.1 hu).1
    have h1 : j < fb.length := by rw [h.lenb, ← h.lens]; exact hj
    have h2 : j < F.length := by rw [← h.lens]; exact hj
    exact (h.blk j _ _ _ (List.getElem?_eq_getElem h1) hu (List.getElem?_eq_getElem h2)).2.block hg
  refine ⟨by rw [List.length_set]; exact h.lenb, by rw [List.length_set, List.length_set]; exact h.lens, fun j c hj => ho _ (h.ow j c hj), fun j c u f h1 h2 h3 => ?_, h.inj, fun j1 j2 u1 u2 g h1 h2 h3 h4 => ?_⟩
  · by_cases e : i = j
    · subst e
      rw [List.getElem?_set_self hi] at h2
      rw [List.getElem?_set_self (by rw [← h.lens]; exact hi)] at h3
      cases h2; cases h3
      rw [hb] at h1
      cases h1
      exact ⟨hb', hs⟩
    · rw [List.getElem?_set_ne e] at h2 h3
      obtain ⟨a1, a2⟩ := h.blk j c u f h1 h2 h3
      have hne : c ≠ b := fun e2 => e (h.inj i j b hb (by rw [h1, e2]))
      have hsb : ∀ k, own k → (∃ x fr, w.heap[k]? = some (.cells x 59 fr)) → v.ownBlock ≠ some k := fun k _ ⟨x, fr, hx⟩ e2 => by
        obtain ⟨_, x2, fr2, h5⟩ := old i v k hv e2
        exact ne_shape hx h5 (by decide) rfl
      refine ⟨(hk c _ _ _ (h.ow j c h1) (.inl rfl) hne (hsb c (h.ow j c h1) ⟨_, _, a1⟩) a1).trans a1, a2.kept (fun g hg => ?_) ho⟩
      obtain ⟨h5, x, fr, h6⟩ := old j u g h2 hg
      have hb59 := (h.blk i b v _ hb hv (List.getElem?_eq_getElem (by rw [← h.lens]; exact hi))).1
      exact hk g _ _ _ h5 (.inr rfl) (ne_shape h6 hb59 (by decide)) (fun e2 => e (h.dinj i j v u g hv h2 e2 hg)) h6
  · by_cases e1 : i = j1
    · by_cases e2 : i = j2
      · omega
      · subst e1
        rw [List.getElem?_set_self hi] at h1
        rw [List.getElem?_set_ne e2] at h2
        cases h1
        rcases hnew g h3 with h5 | h5
        · exact h.dinj i j2 v u2 g hv h2 h5 h4
        · exact absurd (old j2 u2 g h2 h4).1 h5
    · rw [List.getElem?_set_ne e1] at h1
      by_cases e2 : i = j2
      · subst e2
        rw [List.getElem?_set_self hi] at h2
        cases h2
        rcases hnew g h4 with h5 | h5
        · exact h.dinj j1 i u1 v g h1 hv h3 h5
        · exact absurd (old j1 u1 g h1 h3).1 h5
      · rw [List.getElem?_set_ne e2] at h2
        exact h.dinj j1 j2 u1 u2 g h1 h2 h3 h4
theorem DiskR.fileSet (h : DiskR pl w own db dm sm chs fb sl xs M) {i b : Nat} {v : Value} (hb : fb[i]? = some b) (hv : sl[i]? = some v) (v' : Value) (f' : Bs × Nat) (ho : ∀ k, own k → own' k) (hlt : ∀ k, own' k → k < w'.heap.size)
    (hk : ∀ k, own k → k ≠ b → v.ownBlock ≠ some k → w'.heap[k]? = w.heap[k]?)
    (hb' : w'.heap[b]? = some (.cells #[v', .int .i64 f'.2] 59 (0, 0))) (hs : SlIs pl w' own' v' f'.1) (hnew : ∀ g, v'.ownBlock = some g → v.ownBlock = some g ∨ ¬ own g) :
    DiskR pl w' own' db dm sm chs fb (sl.set i v') xs { M with files := M.files.set i f' } := by
  have hi : i < sl.length := (List.getElem?_eq_some_iff.1 hv).1
  have hblk := h.files.blk i b v _ hb hv (List.getElem?_eq_getElem (by rw [← h.files.lens]; exact hi))
  have s5 : ∀ g, v.ownBlock = some g → ∃ x fr, w.heap[g]? = some (.cells x 5 fr) := fun g hg => (hblk.2.block hg).2
  have far : ∀ k x t fr, own k → t ≠ 59 → t ≠ 5 → w.heap[k]? = some (.cells x t fr) → w'.heap[k]? = w.heap[k]? := fun k x t fr h1 h2 h3 h4 =>
    hk k h1 (ne_shape h4 hblk.1 h2) (fun e => by obtain ⟨x5, fr5, h5⟩ := s5 k e; exact ne_shape h4 h5 h3 rfl)
  have farm : ∀ k n (D : DataW Unit), own k → w.ownsMap Try.prog 9 ptrElem k n D → w'.heap[k]? = w.heap[k]? := fun k n D h1 h2 =>
    hk k h1 (ne_map hblk.1 h2).symm (fun e => by obtain ⟨x5, fr5, h5⟩ := s5 k e; exact ne_map h5 h2 rfl)
  exact ⟨ho _ h.odb, (far _ _ _ _ h.odb (by decide) (by decide) h.bdb).trans h.bdb, h.files.put hb hv v' f' ho (fun k x t fr h1 h2 h3 h4 _ => hk k h1 h3 h4) hb' hs hnew, h.dirR.kept (farm _ _ _ h.dirR.ow h.dirR.owns) ho, h.sdirR.kept (farm _ _ _ h.sdirR.ow h.sdirR.owns) ho, h.ne,
    h.chgR.kept (fun k x t fr h1 h2 h3 => far k x t fr h1 (by rcases h2 with rfl | rfl | rfl <;> decide) (by rcases h2 with rfl | rfl | rfl <;> decide) h3) ho (fun i hi => ⟨rfl, hi⟩), hlt⟩
theorem modify_set {F : List (Bs × Nat)} {i : Nat} (g : Bs × Nat → Bs × Nat) (hi : i < F.length) : F.modify i g = F.set i (g (F.getD i ([], 0))) := by
  apply List.ext_getElem?
  intro j
  rw [List.getElem?_modify, List.getElem?_set]
  by_cases e : i = j
  · subst e; simp [hi]
  · simp [e]
end
section
variable {pl : Bool} {w w' : World} {own own' : Nat → Prop} {fb : List Nat} {db dm sm : Nat} {chs : Value} {sl xs : List Value} {M : DM}
/-- What a call has made of a disk: it holds M' now, in its own blocks and new ones; nothing else that stood has turned. -/
def Went (pl : Bool) (w w' : World) (own : Nat → Prop) (db : Nat) (M' : DM) : Prop := ∃ own', IsDisk pl w' own' db M' ∧ (∀ k, own' k → own k ∨ w.heap.size ≤ k) ∧ Only w w' own
theorem Went.mk {pl : Bool} {w w' : World} {own own' : Nat → Prop} {db dm sm : Nat} {chs : Value} {fb : List Nat} {sl xs : List Value} {M M' : DM} (h : DiskR pl w' own' db dm sm chs fb sl xs M) (e : M' = M) (h2 : ∀ k, own' k → own k ∨ w.heap.size ≤ k) (h3 : Only w w' own) : Went pl w w' own db M' :=
  ⟨own', by subst e; exact ⟨dm, sm, chs, fb, sl, xs, h⟩, h2, h3⟩
theorem Went.same {pl : Bool} {w w' : World} {own : Nat → Prop} {db dm sm : Nat} {chs : Value} {fb : List Nat} {sl xs : List Value} {M M' : DM} (h : DiskR pl w' own db dm sm chs fb sl xs M) (e : M' = M) (h3 : Only w w' own) : Went pl w w' own db M' := Went.mk h e (fun _ h => .inl h) h3
theorem named_bad (M : DM) (k : Bs) (fb : List Nat) (h : callE M ≠ 0) : namedV fb M k = .pointer none ∧ namedE M k = callE M ∧ (callE M == 0) = false ∧ (callE M != 0) = true := ⟨if_pos h, if_pos h, by simpa using h, by simpa using h⟩
theorem named_none (M : DM) (k : Bs) (fb : List Nat) (h : callE M = 0) (hg : dGet M.dir k = none) : namedV fb M k = .pointer none ∧ namedE M k = 12 := by
  unfold namedV namedE; rw [if_neg (by rw [h]; simp), if_neg (by rw [h]; simp), hg]; exact ⟨rfl, rfl⟩
theorem named_some (M : DM) (k : Bs) (fb : List Nat) {i : Nat} (h : callE M = 0) (hg : dGet M.dir k = some i) : namedV fb M k = .pointer (some ⟨fbG fb i, 0, none⟩) ∧ namedE M k = 0 := by
  unfold namedV namedE; rw [if_neg (by rw [h]; simp), if_neg (by rw [h]; simp), hg]; exact ⟨rfl, rfl⟩
set_option maxHeartbeats 2000000 in
theorem Sync.calls (h : DiskR pl w own db dm sm chs fb sl xs M) (nm : ByteArray) (hs : nm.size ≤ maxLen) (hc0 : 0 ≤ M.calls) (hc1 : M.calls < 4611686018427387904) (hf : Fits M 1099511627776) :
    Calls Try.prog 30 #[.pointer (some ⟨db, 0, none⟩), .string nm] w fun e w' => e = .returned (.int .i64 (syncF M nm.data.toList).2) ∧ Went pl w w' own db (syncF M nm.data.toList).1 := by
  have hn := named.calls h nm hs hc0 hc1
  have hodb := h.odb
  by_cases he : callE M = 0
  · cases hg : dGet M.dir nm.data.toList with
    | none =>
      obtain ⟨e1, e2⟩ := named_none M _ fb he hg
      rw [e1, e2] at hn
      have E := Aside0.mk (show syncF M nm.data.toList = (tick M, 12) by unfold syncF; rw [if_neg (by rw [he]; simp), hg])
      clear h he hg hs hc0 hc1 e1 e2
      go_enter Try.func30, Try.ntmps30
      go_wp2_with fail
      refine hn.mono ?_
      rintro e w1 ⟨rfl, h1, h2, h3⟩
      have H1 := Aside0.mk h1; have H2 := Aside0.mk h2
      clear h1 h2 h3
      go_wp2
      go_ret
      exact ⟨by rw [E.out]; rfl, Went.same H1.out (by rw [E.out]) (H2.out.mono (fun k _ e => e ▸ hodb))⟩
    | some i =>
      obtain ⟨e1, e2⟩ := named_some M _ fb he hg
      rw [e1, e2] at hn
      have HG := Aside0.mk hg
      obtain ⟨v, hi, -⟩ := h.file hg
      have E := Aside0.mk (show syncF M nm.data.toList = ({ tick M with files := M.files.set i ((M.files.getD i ([], 0)).1, (M.files.getD i ([], 0)).1.length) }, 0) by
        unfold syncF; rw [if_neg (by rw [he]; simp), hg]; simp only; rw [modify_set _ hi])
      have HF := Aside0.mk hf
      have Hi := Aside0.mk hi
      clear h he hg hs hc0 hc1 e1 e2 hi hf
      go_enter Try.func30, Try.ntmps30
      go_wp2_with fail
      refine hn.mono ?_
      rintro e w1 ⟨rfl, h1, h2, h3⟩
      obtain ⟨v, hi, hb, hv, hblk, hsl⟩ := h1.file (M := tick M) HG.out
      have hle : (M.files.getD i ([], 0)).1.length ≤ 1099511627776 := HF.out i
      have hfin : DiskR pl (w1.setCell ⟨fbG fb i, 1, none⟩ (.int .i64 ((M.files.getD i ([], 0)).1.length : Nat))) own db dm sm chs fb (sl.set i v) xs { tick M with files := M.files.set i ((M.files.getD i ([], 0)).1, (M.files.getD i ([], 0)).1.length) } := by
        have hkk : ∀ k, k ≠ fbG fb i → (w1.setCell ⟨fbG fb i, 1, none⟩ (.int .i64 ((M.files.getD i ([], 0)).1.length : Nat))).heap[k]? = w1.heap[k]? := fun k hne => Below.heap_setCell _ _ _ _ hne
        refine h1.fileSet hb hv v ((M.files.getD i ([], 0)).1, (M.files.getD i ([], 0)).1.length) (fun _ h => h) (fun k hk => by have := h1.lt k hk; simpa [World.setCell] using this) (fun k _ hne _ => hkk k hne) (heap_set hblk 1 _) (hsl.kept (fun g hg => hkk g ?_) (fun _ h => h)) (fun g hg => .inl hg)
        obtain ⟨_, x, fr, h6⟩ := hsl.block hg
        exact ne_shape h6 hblk (by decide)
      have HFIN := Aside0.mk hfin
      have HO := Aside0.mk (h2.mono (S' := own) (fun k _ e => e ▸ hodb) |>.trans (Only.setCell (w := w1) (S := own) (a := ⟨fbG fb i, 1, none⟩) (h1.files.ow i _ hb) (.int .i64 ((M.files.getD i ([], 0)).1.length : Nat))) (fun _ _ h => h))
      obtain ⟨A, c, rfl, -, -⟩ := hsl.reads (by show (M.files.getD i ([], 0)).1.length ≤ _; omega)
      have c0 := cells_of hblk 0 rfl
      have c1 := cells_of hblk 1 rfl
      have f1 := free_of hblk 1
      change w1.cell? ⟨fbG fb i, 0, none⟩ = some (.slice A (M.files.getD i ([], 0)).1.length c) at c0
      clear h1 h2 h3 hfin hb hv hblk hsl hi hle
      generalize (M.files.getD i ([], 0)).1 = s at c0 E HFIN HO
      generalize hln : s.length = n at c0 E HFIN HO
      clear hln
      generalize (List.getD (tick M).files i ([], 0)).2 = m at c1
      generalize hbb : fbG fb i = b at *
      clear hbb
      go_wp2
      go_ret
      exact ⟨by rw [E.out]; rfl, Went.same HFIN.out (by rw [E.out]) HO.out⟩
  · obtain ⟨e1, e2, e3, e4⟩ := named_bad M nm.data.toList fb he
    rw [e1, e2] at hn
    have E := Aside0.mk (show syncF M nm.data.toList = (tick M, callE M) from if_pos he)
    clear h he hs hc0 hc1 e1 e2
    go_enter Try.func30, Try.ntmps30
    go_wp2_with fail
    refine hn.mono ?_
    rintro e w1 ⟨rfl, h1, h2, h3⟩
    have H1 := Aside0.mk h1; have H2 := Aside0.mk h2
    clear h1 h2 h3
    go_wp2
    go_ret
    exact ⟨by rw [E.out]; rfl, Went.same H1.out (by rw [E.out]) (H2.out.mono (fun k _ e => e ▸ hodb))⟩
end
end Go.Proofs.Ytephblclhojffaa.A
