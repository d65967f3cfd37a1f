/- How a disk lies in memory: its struct, two maps, files, their bytes, the changes' closures. -/
import Derived.Test.YtephblclhojffaaAx0
import Derived.Test.YtephblclhojffaaHM
import Derived.Maps.OwnSet
import Derived.Maps.Ext
import Derived.WalkLawsBesides
namespace Go.Proofs.Ytephblclhojffaa.A
open Go.RowKit Go.Proofs.YtephblclhojffaaW.PrintWords Go.Proofs.YtephblclhojffaaW.PrintLast Go.Proofs.YtephblclhojffaaW.PrintMore
open Go.Maps (Keyed)
set_option linter.unusedVariables false
set_option linter.unusedSimpArgs false

/-- How a pointer to a file reads: its block's number. -/
def ptrElem : Value → Option (DataW Unit × List MemPlace)
  | .pointer none => some (.nil, [])
  | .pointer (some ⟨b, 0, none⟩) => some (.lit (.int .i64 b), [])
  | _ => none
def ptrV : Option Nat → Value
  | none => .pointer none
  | some b => .pointer (some ⟨b, 0, none⟩)
theorem ptrElem_inv {v : Value} {o : Option Nat} {ps : List MemPlace} (h : ptrElem v = some ((match o with | none => .nil | some b => .lit (.int .i64 (b : Int))), ps)) : v = ptrV o ∧ ps = [] := by
  unfold ptrElem at h
  split at h
  · cases o with
    | none => simp only [Option.some.injEq, Prod.mk.injEq] at h; exact ⟨rfl, h.2.symm⟩
    | some b => simp at h
  · cases o with
    | none => simp at h
    | some b => simp only [Option.some.injEq, Prod.mk.injEq, DataW.lit.injEq, Lit.int.injEq, true_and] at h; obtain ⟨h1, h2⟩ := h; obtain rfl := Int.ofNat.inj h1; exact ⟨rfl, h2.symm⟩
  · simp at h
theorem ptrElem_some (b : Nat) : ptrElem (.pointer (some ⟨b, 0, none⟩)) = some (.lit (.int .i64 b), []) := rfl

abbrev fbG (fb : List Nat) (i : Nat) : Nat := fb.getD i 0
/-- A directory as the maps' kit reads it. -/
def dirD (fb : List Nat) (d : Dir) : DataW Unit := .map (d.map fun p => (.string p.1, .lit (.int .i64 (fbG fb p.2))))
theorem insert_dIns (fb : List Nat) (k : Bs) (f : Nat) : ∀ d : Dir, DataW.insert (H := Unit) (.string k, .lit (.int .i64 (fbG fb f))) (d.map fun p => (.string p.1, .lit (.int .i64 (fbG fb p.2)))) = (dIns (k, f) d).map fun p => (.string p.1, .lit (.int .i64 (fbG fb p.2)))
  | [] => rfl
  | y :: r => by
    have ih := insert_dIns fb k f r
    have e : (Lit.string k).before (Lit.string y.1) = bytesBefore k y.1 := rfl
    by_cases h : bytesBefore k y.1 = true
    · simp only [List.map_cons, DataW.insert, dIns, e, if_pos h]
    · simp only [List.map_cons, DataW.insert, dIns, e, if_neg h]
      rw [ih]
theorem filter_dDel (fb : List Nat) (k : Bs) (d : Dir) : (d.map fun p => ((.string p.1, .lit (.int .i64 (fbG fb p.2))) : Lit × DataW Unit)).filter (fun p => !p.1.sameKey (.string k)) = (dDel d k).map fun p => (.string p.1, .lit (.int .i64 (fbG fb p.2))) := by
  rw [List.filter_map]
  rfl
theorem dirD_put (fb : List Nat) (d : Dir) (k : Bs) (f : Nat) : (dirD fb d).put (.string k) (.lit (.int .i64 (fbG fb f))) = dirD fb (dPut d k f) := by
  unfold dirD DataW.put dPut
  simp only
  rw [filter_dDel, insert_dIns]
theorem dirD_del (fb : List Nat) (d : Dir) (k : Bs) : (dirD fb d).del (.string k) = dirD fb (dDel d k) := by
  unfold dirD DataW.del
  simp only
  rw [filter_dDel]
theorem dirD_at (fb : List Nat) (k : Bs) (d : Dir) : (dirD fb d).atKey (.string k) .nil = (match (dGet d k).map (fbG fb) with | none => .nil | some b => .lit (.int .i64 (b : Int))) := by
  unfold dirD DataW.atKey dGet
  simp only
  rw [List.find?_map]
  have e : ((fun p : Lit × DataW Unit => p.1.sameKey (.string k)) ∘ fun p : Bs × Nat => ((.string p.1, .lit (.int .i64 (fbG fb p.2))) : Lit × DataW Unit)) = fun p => p.1 == k := rfl
  rw [e]
  cases d.find? (fun p => p.1 == k) <;> rfl
theorem dirD_size (fb : List Nat) (d : Dir) : Maps.size (dirD fb d) = d.length := by simp [dirD, Maps.size]
theorem dIns_len (x : Bs × Nat) : ∀ d : Dir, (dIns x d).length = d.length + 1
  | [] => rfl
  | y :: r => by unfold dIns; split <;> simp [dIns_len x r]
theorem dDel_le (d : Dir) (k : Bs) : (dDel d k).length ≤ d.length := List.length_filter_le _ _
theorem dPut_le (d : Dir) (k : Bs) (f : Nat) : (dPut d k f).length ≤ d.length + 1 := by unfold dPut; rw [dIns_len]; have := dDel_le d k; omega
theorem mem_dIns {x p : Bs × Nat} : ∀ {d : Dir}, p ∈ dIns x d → p = x ∨ p ∈ d
  | [], h => by simpa [dIns] using h
  | y :: r, h => by
    unfold dIns at h
    split at h
    · simpa using h
    · rcases List.mem_cons.1 h with h | h
      · exact .inr (by simp [h])
      · rcases mem_dIns h with h | h
        · exact .inl h
        · exact .inr (by simp [h])
theorem mem_dDel {d : Dir} {k : Bs} {p : Bs × Nat} (h : p ∈ dDel d k) : p ∈ d := (List.mem_filter.1 h).1
theorem mem_dPut {d : Dir} {k : Bs} {f : Nat} {p : Bs × Nat} (h : p ∈ dPut d k f) : p = (k, f) ∨ p ∈ d := by
  rcases mem_dIns h with h | h
  · exact .inl h
  · exact .inr (mem_dDel h)
theorem dGet_mem {d : Dir} {k : Bs} {f : Nat} (h : dGet d k = some f) : (k, f) ∈ d := by
  unfold dGet at h
  obtain ⟨p, hp, rfl⟩ := Option.map_eq_some_iff.1 h
  have h1 := List.find?_some hp
  obtain rfl : p.1 = k := by simpa using h1
  exact List.mem_of_find?_eq_some hp

/-! ### worlds -/
/-- Nothing that stood has turned but blocks of S. -/
structure Only (w w' : World) (S : Nat → Prop) : Prop where
  os : w'.os = w.os
  tape : w'.tape = w.tape
  output : w'.output = w.output
  size : w.heap.size ≤ w'.heap.size
  block : ∀ k, k < w.heap.size → ¬ S k → w'.heap[k]? = w.heap[k]?
theorem Only.refl (w : World) (S : Nat → Prop) : Only w w S := ⟨rfl, rfl, rfl, Nat.le_refl _, fun _ _ _ => rfl⟩
theorem Only.trans {a b c : World} {S S' : Nat → Prop} (h : Only a b S) (k : Only b c S') (hs : ∀ i, i < a.heap.size → S' i → S i) : Only a c S :=
  ⟨k.os.trans h.os, k.tape.trans h.tape, k.output.trans h.output, Nat.le_trans h.size k.size, fun i hi hn => (k.block i (Nat.lt_of_lt_of_le hi h.size) (fun e => hn (hs i hi e))).trans (h.block i hi hn)⟩
theorem Only.of_below {w w' : World} (h : Below w.heap.size w w') (S : Nat → Prop) : Only w w' S := ⟨h.os, h.tape, h.output, h.size, fun k hk _ => h.block k hk⟩
theorem Only.of_drawn {w w' : World} (h : Drawn0 w w') (S : Nat → Prop) : Only w w' S := .of_below h.below S
theorem Only.setCell {w : World} {S : Nat → Prop} {a : Addr} (h : S a.block) (u : Value) : Only w (w.setCell a u) S :=
  ⟨rfl, rfl, rfl, by simp [World.setCell], fun k hk hn => Below.heap_setCell _ _ _ _ (fun e => hn (e ▸ h))⟩
theorem Only.of_grown {w w' : World} {row : Option Nat} (h : w.grownBy w' row) {S : Nat → Prop} (hr : ∀ k, row = some k → S k) : Only w w' S :=
  ⟨h.os, h.tape, h.output, h.size, fun k hk hn => h.block k hk (fun e => hn (hr k e.symm))⟩
theorem Only.mono {w w' : World} {S S' : Nat → Prop} (h : Only w w' S) (hs : ∀ k, k < w.heap.size → S k → S' k) : Only w w' S' := ⟨h.os, h.tape, h.output, h.size, fun k hk hn => h.block k hk (fun e => hn (hs k hk e))⟩
theorem Only.below {w w' : World} {S : Nat → Prop} (h : Only w w' S) {B : Nat} (hB : ∀ k, S k → B ≤ k) (hb : B ≤ w.heap.size) : Below B w w' := ⟨h.os, h.tape, h.output, h.size, fun k hk => h.block k (by omega) (fun e => by have := hB k e; omega)⟩

/-! ### the parts -/
def SlIs (pl : Bool) (w : World) (own : Nat → Prop) (v : Value) (s : Bs) : Prop :=
  (v = .slice none 0 0 ∧ s = []) ∨ ∃ g cap cur fr, v = .slice (some ⟨g, 0, none⟩) s.length cap ∧ own g ∧ w.heap[g]? = some (.cells cur 5 fr) ∧ (pl = true → fr = (0, 0)) ∧ s.length ≤ cap ∧ cap ≤ cur.size ∧ cap ≤ maxLen ∧ cur.toList.take s.length = s.map fun c => .int .u8 c.toNat
structure FilesR (pl : Bool) (w : World) (own : Nat → Prop) (fb : List Nat) (sl : List Value) (F : List (Bs × Nat)) : Prop where
  lenb : fb.length = F.length
  lens : sl.length = F.length
  ow : ∀ (i b : Nat), fb[i]? = some b → own b
  blk : ∀ (i b : Nat) v f, fb[i]? = some b → sl[i]? = some v → F[i]? = some f → w.heap[b]? = some (.cells #[v, .int .i64 f.2] 59 (0, 0)) ∧ SlIs pl w own v f.1
  inj : ∀ (i j b : Nat), fb[i]? = some b → fb[j]? = some b → i = j
  dinj : ∀ (i j : Nat) u v g, sl[i]? = some u → sl[j]? = some v → u.ownBlock = some g → v.ownBlock = some g → i = j
structure MapR (w : World) (own : Nat → Prop) (fb : List Nat) (b : Nat) (d : Dir) : Prop where
  ow : own b
  owns : w.ownsMap Try.prog 9 ptrElem b d.length (dirD fb d)
  val : ∀ p ∈ d, p.2 < fb.length
def ClosR (w : World) (own : Nat → Prop) (fb : List Nat) (v : Value) : Chg → Prop
  | .mk k f => ∃ b1 b2 nm, v = .func (.func 55) #[] #[.pointer (some ⟨b1, 0, none⟩), .pointer (some ⟨b2, 0, none⟩)] ∧ own b1 ∧ own b2 ∧ f < fb.length ∧
      w.heap[b1]? = some (.cells #[.pointer (some ⟨fbG fb f, 0, none⟩)] 56 (0, 0)) ∧ w.heap[b2]? = some (.cells #[.string nm] 9 (0, 0)) ∧ nm.data.toList = k ∧ nm.size ≤ maxLen
  | .ren a b => ∃ b1 b2 na nb, v = .func (.func 61) #[] #[.pointer (some ⟨b1, 0, none⟩), .pointer (some ⟨b2, 0, none⟩)] ∧ own b1 ∧ own b2 ∧
      w.heap[b1]? = some (.cells #[.string na] 9 (0, 0)) ∧ w.heap[b2]? = some (.cells #[.string nb] 9 (0, 0)) ∧ na.data.toList = a ∧ nb.data.toList = b ∧ na.size ≤ maxLen ∧ nb.size ≤ maxLen
  | .rm a => ∃ b1 na, v = .func (.func 62) #[] #[.pointer (some ⟨b1, 0, none⟩)] ∧ own b1 ∧ w.heap[b1]? = some (.cells #[.string na] 9 (0, 0)) ∧ na.data.toList = a ∧ na.size ≤ maxLen
structure ChgR (w : World) (own : Nat → Prop) (fb : List Nat) (v : Value) (xs : List Value) (cs : List Chg) : Prop where
  row : w.ownsRow 0 66 1 v xs.length xs
  ow : ∀ g, v.ownBlock = some g → own g
  len : xs.length = cs.length
  each : ∀ (i : Nat) v c, xs[i]? = some v → cs[i]? = some c → ClosR w own fb v c
structure DiskR pl (w : World) (own : Nat → Prop) (db dm sm : Nat) (chs : Value) (fb : List Nat) (sl xs : List Value) (M : DM) : Prop where
  odb : own db
  bdb : w.heap[db]? = some (.cells #[.int .i64 M.space, .map (some dm), .map (some sm), chs, .int .i64 M.calls, .int .i64 M.halt, .int .i64 M.deny] 64 (0, 0))
  files : FilesR pl w own fb sl M.files
  dirR : MapR w own fb dm M.dir
  sdirR : MapR w own fb sm M.sdir
  ne : dm ≠ sm
  chgR : ChgR w own fb chs xs M.chg
  lt : ∀ k, own k → k < w.heap.size
/-- A disk lies at db, in blocks of 'own' alone. -/
def IsDisk (pl : Bool) (w : World) (own : Nat → Prop) (db : Nat) (M : DM) : Prop := ∃ dm sm chs fb sl xs, DiskR pl w own db dm sm chs fb sl xs M

/-! ### what stays -/
section
variable {pl : Bool} {w w' : World} {own own' S : Nat → Prop} {fb : List Nat}
theorem SlIs.kept {v : Value} {s : Bs} (h : SlIs pl w own v s) (hk : ∀ g, v.ownBlock = some g → w'.heap[g]? = w.heap[g]?) (ho : ∀ k, own k → own' k) : SlIs pl w' own' v s := by
  rcases h with h | ⟨g, cap, cur, fr, rfl, h1, h2, h3⟩
  · exact .inl h
  · exact .inr ⟨g, cap, cur, fr, rfl, ho _ h1, (hk g rfl).trans h2, h3⟩
theorem MapR.kept {b : Nat} {d : Dir} (h : MapR w own fb b d) (hk : w'.heap[b]? = w.heap[b]?) (ho : ∀ k, own k → own' k) : MapR w' own' fb b d := by
  refine ⟨ho _ h.ow, ?_, h.val⟩
  obtain ⟨es, clock, hb, r⟩ := h.owns
  exact ⟨es, clock, hk.trans hb, r⟩
theorem ClosR.kept {v : Value} {c : Chg} {fb' : List Nat} (h : ClosR w own fb v c) (hk : ∀ k x t fr, own k → t = 9 ∨ t = 56 → w.heap[k]? = some (.cells x t fr) → w'.heap[k]? = w.heap[k]?) (ho : ∀ k, own k → own' k) (hf : ∀ i, i < fb.length → fbG fb' i = fbG fb i ∧ i < fb'.length) : ClosR w' own' fb' v c := by
  cases c with
  | mk k f =>
    obtain ⟨b1, b2, nm, e, h1, h2, h3, h4, h5, h6⟩ := h
    exact ⟨b1, b2, nm, e, ho _ h1, ho _ h2, (hf f h3).2, by rw [(hf f h3).1]; exact (hk _ _ _ _ h1 (.inr rfl) h4).trans h4, (hk _ _ _ _ h2 (.inl rfl) h5).trans h5, h6⟩
  | ren a b =>
    obtain ⟨b1, b2, na, nb, e, h1, h2, h4, h5, h6⟩ := h
    exact ⟨b1, b2, na, nb, e, ho _ h1, ho _ h2, (hk _ _ _ _ h1 (.inl rfl) h4).trans h4, (hk _ _ _ _ h2 (.inl rfl) h5).trans h5, h6⟩
  | rm a =>
    obtain ⟨b1, na, e, h1, h4, h6⟩ := h
    exact ⟨b1, na, e, ho _ h1, (hk _ _ _ _ h1 (.inl rfl) h4).trans h4, h6⟩
theorem row_kept {v : Value} {n : Nat} {xs : List Value} (h : w.ownsRow 0 66 1 v n xs) (hk : ∀ g, v.ownBlock = some g → w'.heap[g]? = w.heap[g]?) : w'.ownsRow 0 66 1 v n xs := by
  refine ⟨h.1, ?_⟩
  rcases h.2 with h2 | ⟨g, cap, cur, rfl, hg, hh, r⟩
  · exact .inl h2
  · exact .inr ⟨g, cap, cur, rfl, hg, (hk g rfl).trans hh, r⟩
theorem SlIs.block {v : Value} {s : Bs} (h : SlIs pl w own v s) {g : Nat} (hg : v.ownBlock = some g) : own g ∧ ∃ cur fr, w.heap[g]? = some (.cells cur 5 fr) := by
  rcases h with ⟨rfl, _⟩ | ⟨g', cap, cur, fr, rfl, h4, h5, _⟩
  · simp [Value.ownBlock] at hg
  · simp [Value.ownBlock] at hg; subst hg; exact ⟨h4, cur, fr, h5⟩
theorem FilesR.kept {sl : List Value} {F : List (Bs × Nat)} (h : FilesR pl w own fb sl F) (hk : ∀ k x t fr, own k → t = 59 ∨ t = 5 → w.heap[k]? = some (.cells x t fr) → w'.heap[k]? = w.heap[k]?) (ho : ∀ k, own k → own' k) : FilesR pl w' own' fb sl F :=
  ⟨h.lenb, h.lens, fun i b hb => ho _ (h.ow i b hb), fun i b v f h1 h2 h3 => by
    obtain ⟨a1, a2⟩ := h.blk i b v f h1 h2 h3
    refine ⟨(hk _ _ _ _ (h.ow i b h1) (.inl rfl) a1).trans a1, a2.kept (fun g hg => ?_) ho⟩
    obtain ⟨h4, cur, fr, h5⟩ := a2.block hg
    exact hk _ _ _ _ h4 (.inr rfl) h5, h.inj, h.dinj⟩
theorem row_block {v : Value} {n : Nat} {xs : List Value} (h : w.ownsRow 0 66 1 v n xs) {g : Nat} (hg : v.ownBlock = some g) : ∃ cur, w.heap[g]? = some (.cells cur 66 (0, 0)) := by
  rcases h.2 with ⟨rfl, _⟩ | ⟨g', cap, cur, rfl, _, hh, _⟩
  · simp [Value.ownBlock] at hg
  · simp [Value.ownBlock] at hg; subst hg; exact ⟨cur, hh⟩
theorem ChgR.kept {v : Value} {xs : List Value} {cs : List Chg} {fb' : List Nat} (h : ChgR w own fb v xs cs) (hk : ∀ k x t fr, own k → t = 66 ∨ t = 9 ∨ t = 56 → w.heap[k]? = some (.cells x t fr) → w'.heap[k]? = w.heap[k]?) (ho : ∀ k, own k → own' k) (hf : ∀ i, i < fb.length → fbG fb' i = fbG fb i ∧ i < fb'.length) : ChgR w' own' fb' v xs cs :=
  ⟨row_kept h.row (fun g hg => by obtain ⟨cur, hc⟩ := row_block h.row hg; exact hk _ _ _ _ (h.ow g hg) (.inl rfl) hc), fun g hg => ho _ (h.ow g hg), h.len, fun i v c h1 h2 => (h.each i v c h1 h2).kept (fun k x t fr h3 h4 h5 => hk k x t fr h3 (.inr h4) h5) ho hf⟩
/-- A disk none of whose blocks turns stays. -/
theorem DiskR.kept {db dm sm : Nat} {chs : Value} {sl xs : List Value} {M : DM} (h : DiskR pl w own db dm sm chs fb sl xs M) (hk : ∀ k, own k → w'.heap[k]? = w.heap[k]?) (ho : ∀ k, own k → own' k) (hlt : ∀ k, own' k → k < w'.heap.size) : DiskR pl w' own' db dm sm chs fb sl xs M :=
  ⟨ho _ h.odb, (hk _ h.odb).trans h.bdb, h.files.kept (fun k _ _ _ h1 _ _ => hk k h1) ho, h.dirR.kept (hk _ h.dirR.ow) ho, h.sdirR.kept (hk _ h.sdirR.ow) ho, h.ne, h.chgR.kept (fun k _ _ _ h1 _ _ => hk k h1) ho (fun i hi => ⟨rfl, hi⟩), hlt⟩
theorem IsDisk.only {db : Nat} {M : DM} (h : IsDisk pl w own db M) (ho : Only w w' S) (hd : ∀ k, own k → ¬ S k) : IsDisk pl w' own db M := by
  obtain ⟨dm, sm, chs, fb, sl, xs, h⟩ := h
  exact ⟨dm, sm, chs, fb, sl, xs, h.kept (fun k hk => ho.block k (h.lt k hk) (hd k hk)) (fun _ hk => hk) (fun k hk => Nat.lt_of_lt_of_le (h.lt k hk) ho.size)⟩
end

/-! ### what turns -/
theorem ne_shape {w : World} {a b t t' : Nat} {x y : Array Value} {f f' : Nat × Nat} (ha : w.heap[a]? = some (.cells x t f)) (hb : w.heap[b]? = some (.cells y t' f')) (ht : t ≠ t') : a ≠ b := fun e => by
  subst e; rw [ha] at hb; simp only [Option.some.injEq, Obj.cells.injEq] at hb; exact ht hb.2.1
theorem ne_map {w : World} {a b t : Nat} {x : Array Value} {f : Nat × Nat} {P : Program} {k : TypeId} {R : Value → Option (DataW Unit × List MemPlace)} {n : Nat} {D : DataW Unit} (ha : w.heap[a]? = some (.cells x t f)) (hb : w.ownsMap P k R b n D) : a ≠ b := fun e => by
  subst e; obtain ⟨es, clock, h, _⟩ := hb; rw [ha] at h; simp at h
theorem heap_set {w : World} {b t : Nat} {x : Array Value} {f : Nat × Nat} (h : w.heap[b]? = some (.cells x t f)) (o : Nat) (v : Value) : (w.setCell ⟨b, o, none⟩ v).heap[b]? = some (.cells (x.setIfInBounds o v) t f) := by
  simp [World.setCell, Array.getElem?_modify, h]
theorem heap_alloc (w : World) (o : Obj) : (w.alloc o).heap[w.heap.size]? = some o := (MapKept.heap_alloc w o).1
section
variable {pl : Bool} {w w' : World} {own own' S : Nat → Prop} {fb : List Nat} {db dm sm : Nat} {chs : Value} {sl xs : List Value} {M : DM}
/-- A field of the disk's struct is written that is a number. -/
theorem DiskR.fields (h : DiskR pl w own db dm sm chs fb sl xs M) (hk : ∀ k, own k → k ≠ db → w'.heap[k]? = w.heap[k]?) (hs : w.heap.size ≤ w'.heap.size) (sp ca ha de : Int)
    (hb : w'.heap[db]? = some (.cells #[.int .i64 sp, .map (some dm), .map (some sm), chs, .int .i64 ca, .int .i64 ha, .int .i64 de] 64 (0, 0))) : DiskR pl w' own db dm sm chs fb sl xs { M with space := sp, calls := ca, halt := ha, deny := de } :=
  ⟨h.odb, hb, h.files.kept (fun k x t fr h1 h2 h3 => hk k h1 (ne_shape h3 h.bdb (by rcases h2 with rfl | rfl <;> decide))) (fun _ h => h), h.dirR.kept (hk _ h.dirR.ow (ne_map h.bdb h.dirR.owns).symm) (fun _ h => h), h.sdirR.kept (hk _ h.sdirR.ow (ne_map h.bdb h.sdirR.owns).symm) (fun _ h => h), h.ne,
    h.chgR.kept (fun k x t fr h1 h2 h3 => hk k h1 (ne_shape h3 h.bdb (by rcases h2 with rfl | rfl | rfl <;> decide))) (fun _ h => h) (fun i hi => ⟨rfl, hi⟩), fun k hk => Nat.lt_of_lt_of_le (h.lt k hk) hs⟩
theorem cells_of {b t : Nat} {x : Array Value} (h : w.heap[b]? = some (.cells x t (0, 0))) (i : Nat) {v : Value} (hv : x[i]? = some v) : w.cell? ⟨b, i, none⟩ = some v := by
  simp [World.cell?, h, hv]
theorem free_of {b t : Nat} {x : Array Value} (h : w.heap[b]? = some (.cells x t (0, 0))) (i : Nat) : w.frozen? ⟨b, i, none⟩ = false := by
  simp [World.frozen?, h]
end
end Go.Proofs.Ytephblclhojffaa.A
