/- Load: its plain law, its memory, its walk, and what is made of a map of two texts. -/
import Derived.Test.YtephblclhojffaaAx0
import Derived.Test.YtephblclhojffaaHCre
import Derived.Test.YtephblclhojffaaHChange
import Derived.Test.YtephblclhojffaaHAtO
import Derived.Test.YtephblclhojffaaHRen
import Derived.WideKeyEntry
import Derived.StringKeys
import Derived.Maps.RangeWalk
import Derived.Deep.RegionHeld3
namespace Go.Proofs.Ytephblclhojffaa.A
open Go.RowKit Go.Proofs.YtephblclhojffaaW.PrintWords Go.Proofs.YtephblclhojffaaW.PrintLast Go.Proofs.YtephblclhojffaaW.PrintMore
open Go.Maps
set_option linter.unusedVariables false
set_option linter.unusedSimpArgs false

/-- An entry at a key is there; what it is to hold is still to be stored. -/
def Half (w : World) (b : Nat) (st : Int) (D : DataW Unit) (n : Nat) (nm : ByteArray) : Prop :=
  ∃ es1 clock1, w.heap[b]? = some (.map es1 clock1) ∧ ∀ (w2 : World) (p : Nat), w2.heap[b]? = some (.map es1 clock1) →
    ∃ w3, (Instr.entryStore 61 (.map (some b)) (.int .i64 st) (.pointer (some ⟨p, 0, none⟩))).run Try.prog w2 = .ok () w3 ∧ w3.ownsMap Try.prog 9 ptrElem b (n + 1) (D.put (.string nm.data.toList) (.lit (.int .i64 p))) ∧ w2.grownBy w3 (some b) ∧ w3.heap.size = w2.heap.size
theorem zero56u (u : World) : (zeroValue 56).run Try.prog u = .ok (.pointer none) u := by kernel_rfl
theorem grown_setBlock {w : World} {b : Nat} {es : Array MapEntry} {clock : Nat} (hb : w.heap[b]? = some (.map es clock)) (o : Obj) : w.grownBy (Go.ChangeMaps.setBlock w b o) (some b) :=
  ⟨rfl, rfl, rfl, by simp [Go.ChangeMaps.setBlock], fun i _ hi => Go.ChangeMaps.heap_setBlock_other hb _ (fun e => hi (by rw [e]))⟩
theorem size_setBlock (w : World) (b : Nat) (o : Obj) : (Go.ChangeMaps.setBlock w b o).heap.size = w.heap.size := by simp [Go.ChangeMaps.setBlock]
theorem entry_half {w : World} {b n : Nat} {D : DataW Unit} (h : w.ownsMap Try.prog 9 ptrElem b n D) (nm : ByteArray) (hs : nm.size ≤ maxLen) (hn : n < maxLen) :
    ∃ (v0 : Value) (st : Int) (w' : World), (Instr.mapEntry 61 (.map (some b)) (.string nm)).run Try.prog w = .ok (.tuple #[v0, .int .i64 st]) w' ∧ w.grownBy w' (some b) ∧ w'.heap.size = w.heap.size ∧ Half w' b st D n nm := by
  have hkey := Go.WideMaps.keyOf_string_mk (P := Try.prog) (k := 9) Try.underlying9 hs
  obtain ⟨es, clock, hb, F, hsz, hD⟩ := h
  obtain ⟨v0, st, es1, clock1, h1, -, h3⟩ := Go.WideElems.entry_then_store (Go.WideMaps.string_law Try.underlying9) Try.underlying61 zero56u hb F hkey
  refine ⟨v0, st, _, h1, grown_setBlock hb _, size_setBlock _ _ _, es1, clock1, Go.ChangeMaps.heap_setBlock_same hb _, fun w2 p hw2 => ?_⟩
  obtain ⟨es', clock', h4, h5⟩ := h3 w2 (.pointer (some ⟨p, 0, none⟩)) hw2
  obtain ⟨w', h6, h7, -⟩ := World.ownsMap.update (⟨es, clock, hb, F, hsz, hD⟩ : w.ownsMap Try.prog 9 ptrElem b n D) strKey Try.underlying61 hn hkey (ptrElem_some p)
  rw [h5] at h6
  cases h6
  refine ⟨_, h4, ?_, grown_setBlock hw2 _, size_setBlock _ _ _⟩
  obtain ⟨esx, clx, hx, r⟩ := h7
  rw [Go.ChangeMaps.heap_setBlock_same hb] at hx
  cases hx
  exact ⟨_, _, Go.ChangeMaps.heap_setBlock_same hw2 _, r⟩
theorem Half.kept {w w' : World} {b n : Nat} {st : Int} {D : DataW Unit} {nm : ByteArray} (h : Half w b st D n nm) (hk : w'.heap[b]? = w.heap[b]?) : Half w' b st D n nm := by
  obtain ⟨es1, c1, h1, h2⟩ := h
  exact ⟨es1, c1, hk.trans h1, h2⟩
theorem Half.store {w : World} {b n : Nat} {st : Int} {D : DataW Unit} {nm : ByteArray} (h : Half w b st D n nm) (p : Nat) :
    ∃ w3, (Instr.entryStore 61 (.map (some b)) (.int .i64 st) (.pointer (some ⟨p, 0, none⟩))).run Try.prog w = .ok () w3 ∧ w3.ownsMap Try.prog 9 ptrElem b (n + 1) (D.put (.string nm.data.toList) (.lit (.int .i64 p))) ∧ w.grownBy w3 (some b) ∧ w3.heap.size = w.heap.size := by
  obtain ⟨es1, c1, h1, h2⟩ := h
  exact h2 w p h1
theorem Half.lt {w : World} {b n : Nat} {st : Int} {D : DataW Unit} {nm : ByteArray} (h : Half w b st D n nm) : b < w.heap.size := by
  obtain ⟨es1, c1, h1, _⟩ := h
  exact (Array.getElem?_eq_some_iff.1 h1).1
theorem owns_kept {w w' : World} {k b n : Nat} {R : Value → Option (DataW Unit × List MemPlace)} {D : DataW Unit} (h : w.ownsMap Try.prog k R b n D) (hk : w'.heap[b]? = w.heap[b]?) : w'.ownsMap Try.prog k R b n D := by
  obtain ⟨es, clock, hb, r⟩ := h
  exact ⟨es, clock, hk.trans hb, r⟩
theorem grown_other {w w' : World} {b k : Nat} (hg : w.grownBy w' (some b)) (hz : w'.heap.size = w.heap.size) (hk : k ≠ b) : w'.heap[k]? = w.heap[k]? := by
  by_cases h : k < w.heap.size
  · exact hg.block k h (fun e => hk (by cases e; rfl))
  · rw [Array.getElem?_eq_none (by omega), Array.getElem?_eq_none (by omega)]
/-- Nothing but two maps has turned. -/
structure Mid (w0 w : World) (a b : Nat) : Prop where
  os : w.os = w0.os
  tape : w.tape = w0.tape
  output : w.output = w0.output
  size : w.heap.size = w0.heap.size
  other : ∀ k, k ≠ a → k ≠ b → w.heap[k]? = w0.heap[k]?
theorem Mid.drew (w : World) (a b : Nat) : Mid w w.drew a b := ⟨rfl, rfl, rfl, rfl, fun _ _ _ => rfl⟩
theorem Mid.step {w0 w w' : World} {a b c : Nat} (h : Mid w0 w a b) (hg : w.grownBy w' (some c)) (hz : w'.heap.size = w.heap.size) (hc : c = a ∨ c = b) : Mid w0 w' a b :=
  ⟨hg.os.trans h.os, hg.tape.trans h.tape, hg.output.trans h.output, hz.trans h.size, fun k h1 h2 => (grown_other hg hz (by rcases hc with rfl | rfl <;> assumption)).trans (h.other k h1 h2)⟩
theorem Mid.only {w0 w : World} {a b : Nat} (h : Mid w0 w a b) {S : Nat → Prop} (h1 : S a) (h2 : S b) : Only w0 w S := ⟨h.os, h.tape, h.output, Nat.le_of_eq h.size.symm, fun k _ hk => h.other k (fun e => hk (e ▸ h1)) (fun e => hk (e ▸ h2))⟩
theorem cell_eq {w w' : World} {b : Nat} (h : w'.heap[b]? = w.heap[b]?) (o : Nat) : w'.cell? ⟨b, o, none⟩ = w.cell? ⟨b, o, none⟩ := by simp [World.cell?, h]

section
variable {pl : Bool} {w w' : World} {own own' : Nat → Prop} {fb : List Nat} {db dm sm : Nat} {chs : Value} {sl xs : List Value} {M : DM}
theorem DiskR.filePush2 (h : DiskR pl w own db dm sm chs fb sl xs M) (hk : ∀ k, own k → w'.heap[k]? = w.heap[k]?) (ho : ∀ k, own k → own' k) (hlt : ∀ k, own' k → k < w'.heap.size) {b : Nat} (hob : own' b) (hnb : ¬ own b) (v0 : Value) (f0 : Bs × Nat)
    (hb : w'.heap[b]? = some (.cells #[v0, .int .i64 f0.2] 59 (0, 0))) (hs : SlIs pl w' own' v0 f0.1) (hnew : ∀ g, v0.ownBlock = some g → ¬ own g) : DiskR pl w' own' db dm sm chs (fb ++ [b]) (sl ++ [v0]) xs { M with files := M.files ++ [f0] } := by
  have hK := h.kept hk ho hlt
  have hl1 := h.files.lenb
  have hl2 := h.files.lens
  have old : ∀ (j : Nat) (u : Value) (g : Nat), sl[j]? = some u → u.ownBlock = some g → own g := fun j u g hu hg => by
    have hj : j < sl.length := (List.getElem?_eq_some_iff.1 hu).1
    exact ((h.files.blk j _ _ _ (List.getElem?_eq_getElem (by omega : j < fb.length)) hu (List.getElem?_eq_getElem (by omega : j < M.files.length))).2.block hg).1
  refine ⟨hK.odb, hK.bdb, ⟨by simp [hl1], by simp [hl2], fun i c hc => ?_, fun i c v f h1 h2 h3 => ?_, fun i j c h1 h2 => ?_, fun i j u v g h1 h2 h3 h4 => ?_⟩, ⟨hK.dirR.ow, ?_, fun p hp => (fbG_push fb b _ (hK.dirR.val p hp)).2⟩, ⟨hK.sdirR.ow, ?_, fun p hp => (fbG_push fb b _ (hK.sdirR.val p hp)).2⟩, hK.ne, hK.chgR.kept (fun _ _ _ _ _ _ _ => rfl) (fun _ h => h) (fun i hi => fbG_push fb b i hi), hlt⟩
  · rw [List.getElem?_append] at hc
    split at hc
    · exact hK.files.ow i c hc
    · obtain ⟨-, rfl⟩ := one_get hc
      exact hob
  · by_cases hi : i < fb.length
    · rw [List.getElem?_append_left hi] at h1
      rw [List.getElem?_append_left (by omega)] at h2 h3
      exact hK.files.blk i c v f h1 h2 h3
    · rw [List.getElem?_append_right (by omega)] at h1 h2 h3
      obtain ⟨-, rfl⟩ := one_get h1
      obtain ⟨-, rfl⟩ := one_get h2
      obtain ⟨-, rfl⟩ := one_get h3
      exact ⟨hb, hs⟩
  · rw [List.getElem?_append] at h1 h2
    split at h1 <;> split at h2
    · exact h.files.inj i j c h1 h2
    · obtain ⟨-, rfl⟩ := one_get h2
      exact absurd (h.files.ow i b h1) hnb
    · obtain ⟨-, rfl⟩ := one_get h1
      exact absurd (h.files.ow j b h2) hnb
    · obtain ⟨e1, -⟩ := one_get h1
      obtain ⟨e2, -⟩ := one_get h2
      omega
  · rw [List.getElem?_append] at h1 h2
    split at h1 <;> split at h2
    · exact h.files.dinj i j u v g h1 h2 h3 h4
    · obtain ⟨-, rfl⟩ := one_get h2
      exact absurd (old i u g h1 h3) (hnew g h4)
    · obtain ⟨-, rfl⟩ := one_get h1
      exact absurd (old j v g h2 h4) (hnew g h3)
    · obtain ⟨e1, -⟩ := one_get h1
      obtain ⟨e2, -⟩ := one_get h2
      omega
  · rw [dirD_push fb b _ hK.dirR.val]; exact hK.dirR.owns
  · rw [dirD_push fb b _ hK.sdirR.val]; exact hK.sdirR.owns
theorem DiskR.dirsSet (h : DiskR pl w own db dm sm chs fb sl xs M) (hk : ∀ k, own k → k ≠ dm → k ≠ sm → w'.heap[k]? = w.heap[k]?) (hs : w.heap.size ≤ w'.heap.size) {d s : Dir} (hM : MapR w' own fb dm d) (hS : MapR w' own fb sm s) : DiskR pl w' own db dm sm chs fb sl xs { M with dir := d, sdir := s } :=
  have far : ∀ k x t fr, own k → w.heap[k]? = some (.cells x t fr) → w'.heap[k]? = w.heap[k]? := fun k x t fr h1 h2 => hk k h1 (ne_map h2 h.dirR.owns) (ne_map h2 h.sdirR.owns)
  ⟨h.odb, (far _ _ _ _ h.odb h.bdb).trans h.bdb, h.files.kept (fun k x t fr h1 _ h3 => far k x t fr h1 h3) (fun _ h => h), hM, hS, h.ne, h.chgR.kept (fun k x t fr h1 _ h3 => far k x t fr h1 h3) (fun _ h => h) (fun i hi => ⟨rfl, hi⟩), fun k hk => Nat.lt_of_lt_of_le (h.lt k hk) hs⟩
theorem sl_bytes (w : World) (s : ByteArray) (hs : s.size ≤ maxLen) (hk : w'.heap[w.heap.size]? = (Lib.bytesWorld w 5 s).heap[w.heap.size]?) (ho : own w.heap.size) : SlIs false w' own (.slice (some ⟨w.heap.size, 0, none⟩) s.size (grownCap w s.size 0 5)) s.data.toList := by
  have e : s.data.toList.length = s.size := by simp
  refine .inr ⟨w.heap.size, grownCap w s.size 0 5, Lib.bytesCells w 5 s, _, by rw [e], ho, hk.trans (Lib.bytesWorld_at_new w 5 s), (fun h => by cases h), (by rw [e]; exact grownCap_ge _ _ _ _), ?_, grownCap_le_maxLen _ _ _ _ hs, ?_⟩
  · have := grownCap_ge w s.size 0 5
    simp [Lib.bytesCells]
    omega
  · rw [e]
    unfold Lib.bytesCells
    rw [Array.toList_append, List.take_append_of_le_length (by simp), List.take_of_length_le (by simp)]
    simp
end

theorem dGet_ins_other (k k' : Bs) (f : Nat) (hne : k ≠ k') : ∀ d : Dir, dGet (dIns (k, f) d) k' = dGet d k'
  | [] => by simp [dIns, dGet, hne]
  | y :: r => by
    have ih := dGet_ins_other k k' f hne r
    unfold dIns
    split
    · simp [dGet, hne]
    · unfold dGet at ih ⊢
      rw [List.find?_cons, List.find?_cons]
      split
      · rfl
      · exact ih
theorem dGet_del_other (k k' : Bs) (hne : k ≠ k') : ∀ d : Dir, dGet (dDel d k) k' = dGet d k'
  | [] => rfl
  | y :: r => by
    have ih := dGet_del_other k k' hne r
    unfold dDel dGet at ih ⊢
    rw [List.filter_cons]
    split
    · rw [List.find?_cons, List.find?_cons]
      split
      · rfl
      · exact ih
    · rename_i h
      rw [List.find?_cons]
      have e : y.1 = k := by simpa using h
      have : (y.1 == k') = false := by rw [beq_eq_false_iff_ne, e]; exact hne
      rw [this]
      exact ih
theorem dGet_put_other (d : Dir) (k k' : Bs) (f : Nat) (hne : k ≠ k') : dGet (dPut d k f) k' = dGet d k' := by
  unfold dPut
  rw [dGet_ins_other k k' f hne, dGet_del_other k k' hne]
theorem dGet_put_same (d : Dir) (k : Bs) (f : Nat) : dGet (dPut d k f) k = some f := by
  have hp := dPut_perm d k f
  have hm : (k, f) ∈ dPut d k f := hp.mem_iff.2 (by simp)
  cases hg : dGet (dPut d k f) k with
  | none =>
    unfold dGet at hg
    rw [Option.map_eq_none_iff, List.find?_eq_none] at hg
    exact absurd (hg _ hm) (by simp)
  | some g =>
    have h2 := hp.mem_iff.1 (dGet_mem hg)
    rcases List.mem_cons.1 h2 with e | e
    · rw [(Prod.mk.inj e).2]
    · unfold dDel at e
      simp at e
theorem dDel_none {d : Dir} {k : Bs} (h : k ∉ d.map (·.1)) : dDel d k = d := by
  unfold dDel
  rw [List.filter_eq_self]
  intro p hp
  have : p.1 ≠ k := fun e => h (e ▸ List.mem_map_of_mem (f := (·.1)) hp)
  simpa using this
def loadStep (M : DM) (k v : Bs) : DM := { M with files := M.files ++ [(v, v.length)], dir := dPut M.dir k M.files.length, sdir := dPut M.sdir k M.files.length }
/-- The disk behind some entries. -/
structure LoadOk (M : DM) (ps : List (Bs × Bs)) (t : Nat) : Prop where
  sdir : M.sdir = M.dir
  chg : M.chg = []
  keys : (M.dir.map (·.1)).Perm (ps.map (·.1))
  file : ∀ p ∈ ps, ∃ i, dGet M.dir p.1 = some i ∧ i < M.files.length ∧ M.files.getD i ([], 0) = (p.2, p.2.length)
  val : ∀ q ∈ M.dir, q.2 < M.files.length
  firm : ∀ j, (M.files.getD j ([], 0)).1.length = (M.files.getD j ([], 0)).2
  fits : ∀ j, (M.files.getD j ([], 0)).1.length ≤ t
theorem load_new (x : Int) (t : Nat) : LoadOk (newF x) [] t := ⟨rfl, rfl, .refl _, by simp, by simp [newF], by simp [newF], by simp [newF]⟩
theorem getD_snoc (F : List (Bs × Nat)) (x : Bs × Nat) (j : Nat) : (F ++ [x]).getD j ([], 0) = if j = F.length then x else F.getD j ([], 0) := by
  simp only [List.getD_eq_getElem?_getD, List.getElem?_append]
  split
  · rw [if_neg (by omega)]
  · rename_i h
    by_cases e : j = F.length
    · rw [if_pos e, e]; simp
    · rw [if_neg e, List.getElem?_eq_none (by simp; omega), List.getElem?_eq_none (by omega)]
theorem LoadOk.step {M : DM} {ps : List (Bs × Bs)} {t : Nat} (h : LoadOk M ps t) {k v : Bs} (hk : k ∉ ps.map (·.1)) (hv : v.length ≤ t) : LoadOk (loadStep M k v) ((k, v) :: ps) t := by
  have hkd : k ∉ M.dir.map (·.1) := fun e => hk (h.keys.mem_iff.1 e)
  have hp : (dPut M.dir k M.files.length).Perm ((k, M.files.length) :: M.dir) := by
    have := dPut_perm M.dir k M.files.length
    rwa [dDel_none hkd] at this
  refine ⟨?_, h.chg, ?_, ?_, ?_, ?_, ?_⟩
  · show dPut M.sdir k _ = dPut M.dir k _; rw [h.sdir]
  · exact (hp.map _).trans (List.Perm.cons _ h.keys)
  · intro p hm
    show ∃ i, dGet (dPut M.dir k M.files.length) p.1 = some i ∧ i < (M.files ++ [(v, v.length)]).length ∧ (M.files ++ [(v, v.length)]).getD i ([], 0) = _
    rcases List.mem_cons.1 hm with rfl | hm
    · exact ⟨M.files.length, dGet_put_same _ _ _, by simp, by rw [getD_snoc, if_pos rfl]⟩
    · obtain ⟨i, h1, h2, h3⟩ := h.file p hm
      have hne : k ≠ p.1 := fun e => hk (e ▸ List.mem_map_of_mem (f := (·.1)) hm)
      exact ⟨i, by rw [dGet_put_other _ _ _ _ hne]; exact h1, by rw [List.length_append]; exact Nat.lt_succ_of_lt h2, by rw [getD_snoc, if_neg (by omega)]; exact h3⟩
  · intro q hq
    show q.2 < (M.files ++ [(v, v.length)]).length
    rw [List.length_append]
    rcases List.mem_cons.1 (hp.mem_iff.1 hq) with rfl | hm
    · simp
    · exact Nat.lt_succ_of_lt (h.val q hm)
  · intro j
    show ((M.files ++ [(v, v.length)]).getD j ([], 0)).1.length = ((M.files ++ [(v, v.length)]).getD j ([], 0)).2
    rw [getD_snoc]
    split
    · rfl
    · exact h.firm j
  · intro j
    show ((M.files ++ [(v, v.length)]).getD j ([], 0)).1.length ≤ t
    rw [getD_snoc]
    split
    · exact hv
    · exact h.fits j
/-- A crash takes nothing of a disk that was loaded. -/
theorem LoadOk.crash {M : DM} {ps : List (Bs × Bs)} {t : Nat} (h : LoadOk M ps t) (x : Int) (keep : List Int) : (crashF M x keep).dir = M.dir ∧ ∀ p ∈ ps, readF (crashF M x keep) p.1 = (p.2, 0) := by
  have hd := firm_crash_dir h.sdir h.chg x keep
  refine ⟨hd, fun p hp => ?_⟩
  obtain ⟨i, h1, h2, h3⟩ := h.file p hp
  unfold readF
  rw [hd, h1]
  have e : (crashF M x keep).files.getD i ([], 0) = M.files.getD i ([], 0) := by
    have e2 : replay M.sdir (M.chg.take x.toNat) = M.dir := by rw [h.chg, h.sdir]; simp [replay]
    show (cutAll keep 0 (replay M.sdir (M.chg.take x.toNat)) M.files).getD i ([], 0) = _
    rw [e2]
    exact cutAll_keep keep i M.dir 0 M.files h.val (h.firm i)
  simp only [e, h3]
theorem LoadOk.len {M : DM} {ps : List (Bs × Bs)} {t : Nat} (h : LoadOk M ps t) : M.dir.length = ps.length := by
  have := h.keys.length_eq
  simpa using this
theorem LoadOk.sure {M : DM} {ps : List (Bs × Bs)} {t : Nat} (h : LoadOk M ps t) : SureOk M.files := fun j => by rw [h.firm j]; exact Nat.le_refl _
theorem LoadOk.chgOk {M : DM} {ps : List (Bs × Bs)} {t : Nat} (h : LoadOk M ps t) : ChgOk M := fun k c hc => by rw [h.chg] at hc; simp at hc

/-- What holds of the loading at a round's head. -/
structure Loading (w0 wr : World) (b r n db : Nat) (D : DataW Unit) (left : Lit → Bool) (cnt : Nat) (own : Nat → Prop) (M : DM) (ps : List (Bs × Bs)) : Prop where
  rg : wr.ranges Try.prog 9 (plainElem Try.prog 9) b r n D left cnt
  dk : AtO false w0.heap.size w0 wr db own M
  ne : ∀ k, own k → k ≠ r
  ge : w0.heap.size ≤ r
  ok : LoadOk M ps 1048576
  seen : ∀ p ∈ ps, left (.string p.1) = false ∧ D.atKey (.string p.1) .nil = .lit (.string p.2) ∧ Maps.has D (.string p.1) = true
  rest : ∀ kl, Maps.has D kl = true → left kl = true ∨ ∃ p ∈ ps, kl = .string p.1
  sub : ∀ kl, left kl = true → Maps.has D kl = true
  cnt : ps.length + cnt ≤ n
  nd : (ps.map (·.1)).Nodup
def LoadR (w0 wr : World) (b r n db : Nat) (D : DataW Unit) : Prop := ∃ left cnt own M ps, Loading w0 wr b r n db D left cnt own M ps
theorem string_inv (key : Value) (kl : Lit) (h : keyOf Try.prog 9 key = some kl) : ∃ x : ByteArray, key = .string x := by
  cases key <;> simp [keyOf, mapKey, Try.underlying9] at h
  exact ⟨_, rfl⟩
theorem string_inv2 (v : Value) (y : DataW Unit × List MemPlace) (h : plainElem Try.prog 9 v = some y) : ∃ x : ByteArray, v = .string x := by
  cases v <;> simp [plainElem, Try.underlying9] at h
  exact ⟨_, rfl⟩
theorem key_inv {x : ByteArray} {kl : Lit} (h : keyOf Try.prog 9 (.string x) = some kl) : kl = .string x.data.toList ∧ x.size ≤ maxLen := by
  simp [keyOf, mapKey, Try.underlying9] at h
  exact ⟨h.2.symm, h.1⟩
theorem elem_inv {c : ByteArray} {y1 : DataW Unit} {y2 : List MemPlace} (h : plainElem Try.prog 9 (.string c) = some (y1, y2)) : y1 = .lit (.string c.data.toList) ∧ c.size ≤ maxLen := by
  simp [plainElem, Try.underlying9] at h
  exact ⟨h.2.1.symm, h.1⟩
theorem ranges_kept {w w' : World} {b r n : Nat} {R : Value → Option (DataW Unit × List MemPlace)} {D : DataW Unit} {left : Lit → Bool} {cnt : Nat} (h : w.ranges Try.prog 9 R b r n D left cnt) (hb : w'.heap[b]? = w.heap[b]?) (hr : w'.heap[r]? = w.heap[r]?) : w'.ranges Try.prog 9 R b r n D left cnt := by
  obtain ⟨es, clock, since, seen, c0, h1, h2, h3, h4, h5, h6⟩ := h
  exact ⟨es, clock, since, seen, c0, hb.trans h1, h2, h3, h4, hr.trans h5, h6⟩
theorem ranges_size {w : World} {b r n : Nat} {R : Value → Option (DataW Unit × List MemPlace)} {D : DataW Unit} {left : Lit → Bool} {cnt : Nat} (h : w.ranges Try.prog 9 R b r n D left cnt) : Maps.size D ≤ n := by
  obtain ⟨es, clock, since, seen, c0, h1, h2, h3, rfl, h5, h6⟩ := h
  simpa [Maps.size, length_sorted] using h3
theorem SlIs.loose {pl : Bool} {w : World} {own : Nat → Prop} {v : Value} {s : Bs} (h : SlIs pl w own v s) : SlIs false w own v s := by
  rcases h with h | ⟨g, cap, cur, fr, h1, h2, h3, -, h5⟩
  · exact .inl h
  · exact .inr ⟨g, cap, cur, fr, h1, h2, h3, (fun e => by cases e), h5⟩
theorem IsDisk.loose {pl : Bool} {w : World} {own : Nat → Prop} {db : Nat} {M : DM} (h : IsDisk pl w own db M) : IsDisk false w own db M := by
  obtain ⟨dm, sm, chs, fb, sl, xs, h⟩ := h
  exact ⟨dm, sm, chs, fb, sl, xs, h.odb, h.bdb, ⟨h.files.lenb, h.files.lens, h.files.ow, fun i b v f h1 h2 h3 => ⟨(h.files.blk i b v f h1 h2 h3).1, (h.files.blk i b v f h1 h2 h3).2.loose⟩, h.files.inj, h.files.dinj⟩, h.dirR, h.sdirR, h.ne, h.chgR, h.lt⟩
set_option maxRecDepth 100000 in
set_option maxHeartbeats 16000000 in
theorem Load.calls (w : World) (b n : Nat) (D : DataW Unit) (hD : w.ownsMap Try.prog 9 (plainElem Try.prog 9) b n D) (hn : n ≤ 1000) (hv : ∀ kl s, D.atKey kl .nil = .lit (.string s) → s.length ≤ 1048576) :
    Calls Try.prog 12 #[.map (some b)] w fun e w' => ∃ db own M ps, e = .returned (.pointer (some ⟨db, 0, none⟩)) ∧ AtO false w.heap.size w w' db own M ∧ LoadOk M ps 1048576 ∧ (∀ p ∈ ps, D.atKey (.string p.1) .nil = .lit (.string p.2) ∧ Maps.has D (.string p.1) = true) ∧ (∀ kl, Maps.has D kl = true → ∃ p ∈ ps, kl = .string p.1) ∧ (ps.map (·.1)).Nodup ∧ ps.length ≤ n := by
  have kb := fun s W => print_bytes (P := Try.prog) 9 57 5 Try.underlying9 Try.underlying57 Try.underlying5 s W
  have HD := Aside0.mk hD
  have HN := Aside0.mk hn; have HV := Aside0.mk hv
  clear hD hn hv
  go_enter Try.func12, Try.ntmps12
  go_wp2_with fail
  refine (New.calls 1099511627776 w).mono ?_
  rintro e w1 ⟨db, own, rfl, hDk, hb1, ho1⟩
  have hD1 : w1.ownsMap Try.prog 9 (plainElem Try.prog 9) b n D := by
    obtain ⟨es, clock, hb, r⟩ := HD.out
    exact ⟨es, clock, (hb1.block b (Array.getElem?_eq_some_iff.1 hb).1).trans hb, r⟩
  have hA1 : AtO false w.heap.size w w1 db own (newF 1099511627776) := ⟨hDk.loose, ho1, hb1, hb1.size⟩
  have HA1 := Aside0.mk hA1
  clear hDk hb1 ho1 hA1
  go_wp2_with (first | (at_range; refine wpList_range_own _ rfl _ 28 rfl 9 9 strKey Try.underlying28 _ b n D rfl hD1 ?_; intro w2 hrg hg hs))
  have hR : Aside0 (LoadR w w2 b w1.heap.size n db D) := ⟨by
    have hbl : Below w1.heap.size w1 w2 := ⟨hg.os, hg.tape, hg.output, hg.size, fun k hk => hg.block k hk (by simp)⟩
    have hz := ranges_size hrg
    exact ⟨_, _, own, _, [], hrg, HA1.out.below hbl, fun k hk e => by have := HA1.out.lt k hk; omega, HA1.out.2.2.2, load_new _ _, by simp, fun kl h => .inl h, fun kl h => h, by simpa using hz, by simp⟩⟩
  clear hrg hg hs hD1
  generalize w1.heap.size = r at *
  go_frame
  go_loopw [] (fun wr => Aside0 (LoadR w wr b r n db D)) (fun wr => wr.rangeLeft b r)
  case atStart => exact hR
  case round =>
    clear hR
    obtain ⟨left, cnt, own, M, ps, hL⟩ := hrel.out
    have hrg := hL.rg
    have HL := Aside0.mk hL
    clear hL hrel
    go_wp2_with (first | (at_next; refine wpList_next_ranges _ rfl _ rfl 9 strKey _ Value.string Value.string string_inv string_inv2 b r n D left cnt rfl hrg ?_ ?_))
    · intro hc0 hl0
      have HC := Aside0.mk hl0
      have HLf := Aside0.mk hrg.left_eq
      clear hc0 hl0 hrg
      go_wp2
      go_ret
      have hL := HL.out
      exact ⟨db, own, M, ps, rfl, hL.dk, hL.ok, fun p hp => (hL.seen p hp).2, fun kl h => (hL.rest kl h).elim (fun e => by rw [HC.out kl] at e; cases e) id, hL.nd, by have := hL.cnt; omega⟩
    · intro x c kl y1 y2 w3 cnt' hkey hlk hv hat hrg' hlt hg hs hen
      have hL := HL.out
      have hA3 : AtO false w.heap.size w w3 db own M := hL.dk.only (S := (· = r)) ⟨hg.os, hg.tape, hg.output, hg.size, fun k hk hn => hg.block k hk (fun e => hn (by cases e; rfl))⟩ (fun k e ho => hL.ne k ho e) (fun k e => e ▸ hL.ge)
      have HRB := Aside0.mk (show r < w3.heap.size by rw [hs]; exact hrg.lt)
      have HKL := Aside0.mk (strKey.key hkey)
      have HF : Aside0 (kl = .string x.data.toList ∧ x.size ≤ maxLen ∧ y1 = .lit (.string c.data.toList) ∧ c.size ≤ maxLen) := ⟨(key_inv hkey).1, (key_inv hkey).2, (elem_inv hv).1, (elem_inv hv).2⟩
      have HRG := Aside0.mk hrg'; have HAT := Aside0.mk hat; have HLK := Aside0.mk hlk; have HLT := Aside0.mk hlt
      have HLO := Aside0.mk hrg.left_eq
      obtain ⟨⟨dm, sm, chs, fb, sl, xs, hd⟩, hA3'⟩ := hA3
      have y1 := cells_of hd.bdb 1 rfl
      have y2 := cells_of hd.bdb 2 rfl
      have HD3 := Aside0.mk hd; have HA3 := Aside0.mk hA3'
      clear hkey hlk hv hat hrg' hlt hg hs hrg hL hd hA3'
      go_wp2_with fail
      obtain ⟨hkl, hxs, hy1, hcs⟩ := HF.out
      have hlt3 := HD3.out.lt
      have hodm := HD3.out.dirR.ow
      have hosm := HD3.out.sdirR.ow
      have hodb := HD3.out.odb
      have hb4 : Below w3.heap.size w3 (Lib.bytesWorld w3 5 c) := bytes_below (Below.refl _ _) (Nat.le_refl _) 5 c
      have hsz4 : (Lib.bytesWorld w3 5 c).heap.size = w3.heap.size + 1 := Lib.bytesWorld_size w3 5 c
      have hb5 : Below w3.heap.size w3 ((Lib.bytesWorld w3 5 c).alloc (.cells #[.slice (some ⟨w3.heap.size, 0, none⟩) c.size (grownCap w3 c.size 0 5), .int .i64 c.size] 59)) := hb4.alloc (by omega) _
      have hbk : ((Lib.bytesWorld w3 5 c).alloc (.cells #[.slice (some ⟨w3.heap.size, 0, none⟩) c.size (grownCap w3 c.size 0 5), .int .i64 c.size] 59)).heap[(Lib.bytesWorld w3 5 c).heap.size]? = some (.cells #[.slice (some ⟨w3.heap.size, 0, none⟩) c.size (grownCap w3 c.size 0 5), .int .i64 c.size] 59 (0, 0)) := heap_alloc _ _
      have hrw : ((Lib.bytesWorld w3 5 c).alloc (.cells #[.slice (some ⟨w3.heap.size, 0, none⟩) c.size (grownCap w3 c.size 0 5), .int .i64 c.size] 59)).heap[w3.heap.size]? = (Lib.bytesWorld w3 5 c).heap[w3.heap.size]? := Below.heap_alloc _ _ _ (by omega)
      have hsz5 : ((Lib.bytesWorld w3 5 c).alloc (.cells #[.slice (some ⟨w3.heap.size, 0, none⟩) c.size (grownCap w3 c.size 0 5), .int .i64 c.size] 59)).heap.size = w3.heap.size + 2 := by simp [hsz4]
      rw [hsz4] at hbk ⊢
      generalize (Lib.bytesWorld w3 5 c).alloc (.cells #[.slice (some ⟨w3.heap.size, 0, none⟩) c.size (grownCap w3 c.size 0 5), .int .i64 c.size] 59) = w5 at *
      have hd5 := HD3.out.filePush2 (w' := w5) (own' := plus own w3.heap.size 2) (fun k hk => hb5.block k (hlt3 k hk)) (fun _ h => .inl h) (fun k hk => by rcases hk with hk | hk; have := hlt3 k hk; omega; omega) (b := w3.heap.size + 1) (.inr ⟨by omega, by omega⟩) (fun e => by have := hlt3 _ e; omega) _ (c.data.toList, c.size) hbk
        (sl_bytes w3 c hcs hrw (.inr ⟨by omega, by omega⟩)) (fun g hg e => by simp [Value.ownBlock] at hg; subst hg; have := hlt3 _ e; omega)
      have HD5 := Aside0.mk hd5
      have HB5 := Aside0.mk hb5; have HSZ5 := Aside0.mk hsz5
      have hdd := ne_map hd5.bdb hd5.dirR.owns
      have hds := ne_map hd5.bdb hd5.sdirR.owns
      have HDD := Aside0.mk hdd; have HDS := Aside0.mk hds; have HNE := Aside0.mk hd5.ne
      have hfb : fbG (fb ++ [w3.heap.size + 1]) M.files.length = w3.heap.size + 1 := by rw [← HD3.out.files.lenb]; exact fbG_new _ _
      have y1 := cells_of hd5.bdb 1 rfl
      have y2 := cells_of hd5.bdb 2 rfl
      have HC : Aside0 (∀ W : World, Mid w5 W dm sm → W.cell? ⟨db, 1, none⟩ = some (.map (some dm)) ∧ W.cell? ⟨db, 2, none⟩ = some (.map (some sm))) := ⟨fun W h => ⟨(cell_eq (h.other db hdd hds) 1).trans y1, (cell_eq (h.other db hdd hds) 2).trans y2⟩⟩
      have HB := Aside0.mk (Mid.drew w5 dm sm)
      have HM : Aside0 (w5.drew.ownsMap Try.prog 9 ptrElem dm M.dir.length (dirD (fb ++ [w3.heap.size + 1]) M.dir)) := ⟨hd5.dirR.owns⟩
      have HS : Aside0 (w5.drew.ownsMap Try.prog 9 ptrElem sm M.sdir.length (dirD (fb ++ [w3.heap.size + 1]) M.sdir)) := ⟨hd5.sdirR.owns⟩
      have HLn : Aside0 (M.dir.length < maxLen ∧ M.sdir.length < maxLen) := ⟨by rw [HL.out.ok.sdir, HL.out.ok.len]; have h1 := HL.out.cnt; have h2 := HN.out; unfold maxLen; omega⟩
      have HXS := Aside0.mk hxs; have HFB := Aside0.mk hfb
      clear hkl hy1 hcs hlt3 hodm hosm hodb hb4 hsz4 hb5 hbk hrw hsz5 hd5 hdd hds hfb hxs
      go_region_held3 (fun w' => w'.cell? ⟨db, 1, none⟩ = some (.map (some dm)) ∧ w'.cell? ⟨db, 2, none⟩ = some (.map (some sm)))
        ((repeat' apply And.intro) <;> (first | assumption | exact (HC.out _ HB.out).1 | exact (HC.out _ HB.out).2 | go_keep))
        (first
          | (obtain ⟨v0, st, w6, hrun, hg, hz, hh⟩ := entry_half HM.out x HXS.out HLn.out.1; rw [hrun]; (have HH := Aside0.mk hh); (have HB6 := Aside0.mk (HB.out.step hg hz (.inl rfl))); (have HS6 := Aside0.mk (owns_kept HS.out (grown_other hg hz HNE.out.symm))); clear HM HS HB; (have HB := HB6); clear HB6 hrun hg hz hh; go_simp)
          | (obtain ⟨w7, hrun, ho, hg, hz⟩ := HH.out.store (w3.heap.size + 1); rw [hrun]; (have HM7 := Aside0.mk ho); (have HB6 := Aside0.mk (HB.out.step hg hz (.inl rfl))); (have HS7 := Aside0.mk (owns_kept HS6.out (grown_other hg hz HNE.out.symm))); clear HH HS6 HB; (have HB := HB6); clear HB6 hrun hg hz ho; go_simp)
          | (obtain ⟨v0', st', w8, hrun, hg, hz, hh⟩ := entry_half HS7.out x HXS.out HLn.out.2; rw [hrun]; (have HH8 := Aside0.mk hh); (have HB6 := Aside0.mk (HB.out.step hg hz (.inr rfl))); (have HM8 := Aside0.mk (owns_kept HM7.out (grown_other hg hz HNE.out))); clear HM7 HS7 HB; (have HB := HB6); clear HB6 hrun hg hz hh; go_simp)
          | (obtain ⟨w9, hrun, ho, hg, hz⟩ := HH8.out.store (w3.heap.size + 1); rw [hrun]; (have HS9 := Aside0.mk ho); (have HB6 := Aside0.mk (HB.out.step hg hz (.inr rfl))); (have HM9 := Aside0.mk (owns_kept HM8.out (grown_other hg hz HNE.out))); clear HH8 HM8 HB; (have HB := HB6); clear HB6 hrun hg hz ho; go_simp)
          | (trace_state; sorry))
      have hnew : Aside0 (Loading w w9 b r n db D (fun z => left z && !z.sameKey kl) cnt' (plus own w3.heap.size 2) (loadStep M x.data.toList c.data.toList) ((x.data.toList, c.data.toList) :: ps)) := by
        obtain ⟨hkl, hxs, hy1, hcs⟩ := HF.out
        have hL := HL.out
        have hd := HD5.out
        have hmid := HB.out
        have hlen : c.data.toList.length = c.size := by simp
        have hx : x.data.toList ∉ ps.map (·.1) := fun e => by
          obtain ⟨p, hp, e⟩ := List.mem_map.1 e
          have h1 := (hL.seen p hp).1
          have h2 := HLK.out
          rw [hkl, ← e, h1] at h2
          cases h2
        have hown3 := HA3.out.1
        have hbig := HA3.out.2
        have hltb : b < w.heap.size := by obtain ⟨es, clock, hb, _⟩ := HD.out; exact (Array.getElem?_eq_some_iff.1 hb).1
        have hodm := HD3.out.dirR.ow
        have hosm := HD3.out.sdirR.ow
        have hsb := HB5.out.size
        have hrb := HRB.out
        have e5 : ∀ k, k < w3.heap.size → k ≠ dm → k ≠ sm → w9.heap[k]? = w3.heap[k]? := fun k h1 h2 h3 => (hmid.other k h2 h3).trans (HB5.out.block k h1)
        have hin : M.files.length < (fb ++ [w3.heap.size + 1]).length := by rw [List.length_append, HD3.out.files.lenb]; exact Nat.lt_succ_self _
        have ho1 : w9.ownsMap Try.prog 9 ptrElem dm (M.dir.length + 1) ((dirD (fb ++ [w3.heap.size + 1]) M.dir).put (.string x.data.toList) (.lit (.int .i64 (fbG (fb ++ [w3.heap.size + 1]) M.files.length)))) := by rw [HFB.out]; exact HM9.out
        have ho2 : w9.ownsMap Try.prog 9 ptrElem sm (M.sdir.length + 1) ((dirD (fb ++ [w3.heap.size + 1]) M.sdir).put (.string x.data.toList) (.lit (.int .i64 (fbG (fb ++ [w3.heap.size + 1]) M.files.length)))) := by rw [HFB.out]; exact HS9.out
        have m1 : MapR w9 (plus own w3.heap.size 2) (fb ++ [w3.heap.size + 1]) dm (dPut M.dir x.data.toList M.files.length) := MapR.put hd.dirR hin ho1
        have m2 : MapR w9 (plus own w3.heap.size 2) (fb ++ [w3.heap.size + 1]) sm (dPut M.sdir x.data.toList M.files.length) := MapR.put hd.sdirR hin ho2
        have hd9 := hd.dirsSet (w' := w9) (fun k _ h2 h3 => hmid.other k h2 h3) (Nat.le_of_eq hmid.size.symm) m1 m2
        refine ⟨?_, ?_, ?_, hL.ge, hL.ok.step hx ?_, ?_, ?_, ?_, ?_, ?_⟩
        · exact ranges_kept HRG.out (e5 b (by have := hbig.2; omega) (fun e => by have := hown3 dm hodm; omega) (fun e => by have := hown3 sm hosm; omega)) (e5 r hrb (fun e => hL.ne dm hodm e.symm) (fun e => hL.ne sm hosm e.symm))
        · refine ⟨?_, ?_, ?_, ?_⟩
          · have h := hd9
            rw [← hlen] at h
            exact ⟨_, _, _, _, _, _, h⟩
          · intro k hk
            rcases hk with hk | hk
            · exact hown3 k hk
            · have := hbig.2; omega
          · exact (hbig.1.trans (HB5.out.mono hbig.2)).trans ((hmid.only (S := fun k => k = dm ∨ k = sm) (.inl rfl) (.inr rfl)).below (fun k hk => by rcases hk with rfl | rfl; exact hown3 _ hodm; exact hown3 _ hosm) (by have := hbig.2; omega))
          · rw [hmid.size]; have := hbig.2; omega
        · intro k hk e
          rcases hk with hk | hk
          · exact hL.ne k hk e
          · omega
        · exact HV.out kl _ ((HAT.out _).trans hy1)
        · intro p hp
          rcases List.mem_cons.1 hp with rfl | hp
          · refine ⟨?_, ?_, ?_⟩
            · show (left (.string x.data.toList) && !(Lit.string x.data.toList).sameKey kl) = false
              rw [← hkl, WideAt.sameKey_self HKL.out]; simp
            · show D.atKey (.string x.data.toList) .nil = _
              rw [← hkl]; exact (HAT.out _).trans hy1
            · show Maps.has D (.string x.data.toList) = true
              rw [← hkl]; exact hL.sub _ HLK.out
          · obtain ⟨h1, h2, h3⟩ := hL.seen p hp
            exact ⟨by rw [h1]; rfl, h2, h3⟩
        · intro kl' h
          rcases hL.rest kl' h with h1 | ⟨p, hp, h1⟩
          · by_cases e : kl' = kl
            · exact .inr ⟨_, List.mem_cons_self, by rw [e, hkl]⟩
            · exact .inl (by rw [h1, Maps.sameKey_ne e]; rfl)
          · exact .inr ⟨p, List.mem_cons_of_mem _ hp, h1⟩
        · intro kl' h
          have : left kl' = true := by
            cases hlf : left kl' with
            | true => rfl
            | false => rw [hlf] at h; simp at h
          exact hL.sub kl' this
        · have h1 := hL.cnt; have h2 := HLT.out; simp only [List.length_cons]; omega
        · rw [List.map_cons, List.nodup_cons]
          exact ⟨hx, hL.nd⟩
      clear HM9 HS9 HB
      go_wp2_with fail
      go_roundw
      case rel => exact ⟨_, _, _, _, _, hnew.out⟩
      case measure => rw [hnew.out.rg.left_eq, HLO.out]; exact HLT.out

/-- A map of two texts at two keys, which may be one. -/
structure PairD (D : DataW Unit) (k1 v1 k2 v2 : Bs) : Prop where
  h1 : Maps.has D (.string k1) = true
  h2 : Maps.has D (.string k2) = true
  only : ∀ kl, Maps.has D kl = true → kl = .string k1 ∨ kl = .string k2
  at1 : k1 ≠ k2 → D.atKey (.string k1) .nil = .lit (.string v1)
  at2 : k1 ≠ k2 → D.atKey (.string k2) .nil = .lit (.string v2)
  val : ∀ kl s, D.atKey kl .nil = .lit (.string s) → s = v1 ∨ s = v2
theorem PairD.symm {D : DataW Unit} {k1 v1 k2 v2 : Bs} (h : PairD D k1 v1 k2 v2) : PairD D k2 v2 k1 v1 :=
  ⟨h.h2, h.h1, fun kl e => (h.only kl e).symm, fun e => h.at2 (Ne.symm e), fun e => h.at1 (Ne.symm e), fun kl s e => (h.val kl s e).symm⟩
theorem keyLit (s : Bs) : WideAt.IsKeyLit (.string s) := trivial
theorem pair_of (k1 v1 k2 v2 : Bs) : PairD (((DataW.map [] : DataW Unit).put (.string k1) (.lit (.string v1))).put (.string k2) (.lit (.string v2))) k1 v1 k2 v2 := by
  have i0 : IsMap (.map [] : DataW Unit) := isMap_empty
  have i1 := i0.put (.string k1) (.lit (.string v1))
  have has0 : ∀ kl, Maps.has (.map [] : DataW Unit) kl = false := fun kl => rfl
  have at0 : ∀ kl, (DataW.map [] : DataW Unit).atKey kl .nil = .nil := fun kl => atKey_of_not_has (has0 kl) _
  have hne : ∀ {a b : Bs}, a ≠ b → (Lit.string a) ≠ .string b := fun h e => h (by injection e)
  refine ⟨?_, has_put_same i1 (keyLit k2) _, ?_, ?_, fun _ => atKey_put_same i1 (keyLit k2) _ _, ?_⟩
  · by_cases e : k1 = k2
    · subst e; exact has_put_same i1 (keyLit k1) _
    · rw [has_put_other (hne e)]; exact has_put_same i0 (keyLit k1) _
  · intro kl h
    by_cases e2 : kl = .string k2
    · exact .inr e2
    · rw [has_put_other e2] at h
      by_cases e1 : kl = .string k1
      · exact .inl e1
      · rw [has_put_other e1, has0] at h; cases h
  · intro e
    rw [atKey_put_other (hne e)]; exact atKey_put_same i0 (keyLit k1) _ _
  · intro kl s h
    by_cases e2 : kl = .string k2
    · rw [e2, atKey_put_same i1 (keyLit k2)] at h
      injection h with h; injection h with h; exact .inr h.symm
    · rw [atKey_put_other e2] at h
      by_cases e1 : kl = .string k1
      · rw [e1, atKey_put_same i0 (keyLit k1)] at h
        injection h with h; injection h with h; exact .inl h.symm
      · rw [atKey_put_other e1, at0] at h; cases h
theorem two_len {a b : Bs} : ∀ {l : List Bs}, l.Nodup → (∀ k ∈ l, k = a ∨ k = b) → a ∈ l → b ∈ l → l.length = if a = b then 1 else 2
  | [], _, _, h, _ => by simp at h
  | [x], _, _, h1, h2 => by
    have e1 : a = x := by simpa using h1
    have e2 : b = x := by simpa using h2
    rw [if_pos (e1.trans e2.symm)]; rfl
  | [x, y], hn, ho, _, _ => by
    have hxy : x ≠ y := by simp at hn; exact hn
    rw [if_neg]; · rfl
    intro e
    subst e
    have e1 : x = a := by rcases ho x (by simp) with h | h <;> exact h
    have e2 : y = a := by rcases ho y (by simp) with h | h <;> exact h
    exact hxy (e1.trans e2.symm)
  | x :: y :: z :: r, hn, ho, _, _ => by
    exfalso
    simp only [List.nodup_cons, List.mem_cons, not_or] at hn
    obtain ⟨⟨hxy, hxz, _⟩, ⟨hyz, _⟩, _⟩ := hn
    rcases ho x (by simp) with e1 | e1 <;> rcases ho y (by simp) with e2 | e2 <;> rcases ho z (by simp) with e3 | e3 <;> simp_all
section
variable {w0 w w' : World} {own : Nat → Prop} {db : Nat} {M : DM} {ps : List (Bs × Bs)}
theorem AtO.crashL (h : AtO false w0.heap.size w0 w db own M) (hk : LoadOk M ps 1048576) (hn : ps.length ≤ 1000) (x : Int) (A : Option Addr) (c : Nat) (keep : List Int) (hkp : Kd.C (Kd.int .i64) w0 A keep.length keep) (hc : keep.length ≤ c) :
    Calls Try.prog 13 #[.pointer (some ⟨db, 0, none⟩), .int .i64 x, .slice A keep.length c] w fun e w' => e = .returned (.tuple #[]) ∧ Moved false w0.heap.size w0 w w' db own (crashF M x keep) := by
  obtain ⟨dm, sm, chs, fb, sl, xs, hd⟩ := h.1
  have hl := hk.len
  refine (Crash.calls hd x A c keep (h.kept hkp) hc hk.chgOk (by rw [hk.chg, hk.sdir, hl]; simp; omega) (fun i => Nat.le_trans (hk.fits i) (by omega)) hk.sure).mono ?_
  rintro e w' ⟨rfl, hW⟩
  exact ⟨rfl, h.went hW⟩
theorem LoadOk.crashFits (hk : LoadOk M ps 1048576) (x : Int) (keep : List Int) : Fits (crashF M x keep) 1099511627776 := fun j => by
  refine Nat.le_trans (cutAll_fits (t := 1048576) hk.sure (fun p hp => ?_) hk.fits j) (by omega)
  have e2 : replay M.sdir (M.chg.take x.toNat) = M.dir := by rw [hk.chg, hk.sdir]; simp [replay]
  rw [e2] at hp
  exact hk.val p hp
end
end Go.Proofs.Ytephblclhojffaa.A
