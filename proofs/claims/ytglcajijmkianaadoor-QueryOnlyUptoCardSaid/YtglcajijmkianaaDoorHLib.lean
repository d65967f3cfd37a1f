/- strings.Join, strconv.Itoa and strconv.FormatInt as functions on lists and numbers, out of the shelf's contracts; in every world that holds strconv's table and errors. -/
import Derived.Test.YtglcajijmkianaaDoorAx0
import Derived.Test.YtglcajijmkianaaDoorShelf
import Derived.Shelf.GgClosure.Gives
import Derived.Shelf.Strconv.Itoa4
namespace Go.Proofs.YtglcajijmkianaaDoor.A
open Go.RowKit Go.Proofs.YtglcajijmkianaaDoorW.PrintWords Go.Proofs.YtglcajijmkianaaDoorW.PrintLast Go.Proofs.YtglcajijmkianaaDoorW.PrintMore
open Go.Shelf Go.Lib Go.Sort
set_option linter.unusedVariables false
set_option linter.unusedSimpArgs false

theorem TabIs_keep {P : Program} {n : String} {g : Nat} {k : IntKind} {zs : List Int} {w w' : World} (hg : P.globalNamed n = some g) (h : Lib.TabIs P w n k zs) (hb : Below w.heap.size w w') : Lib.TabIs P w' n k zs := by
  unfold Lib.TabIs World.var? at h ⊢
  rw [hg] at h ⊢
  simp only [Option.bind_some] at h ⊢
  have hlt : g < w.heap.size := by
    rcases Nat.lt_or_ge g w.heap.size with h' | h'
    · exact h'
    · rw [Array.getElem?_eq_none h'] at h; cases h
  rw [hb.block g hlt]
  exact h
theorem below_grow (w : World) (q : Nat) (os : Array Obj) : Below w.heap.size w (grow (w.drewN q) os) :=
  ⟨rfl, rfl, rfl, by first | (simp [grow]; done) | (simp [grow]; omega), fun i hi => by
    show ((w.drewN q).heap ++ os)[i]? = _
    rw [Array.getElem?_append_left (by show i < w.heap.size; omega)]
    rfl⟩
theorem spot_none {w : World} {a : Addr} {v : Value} (h : w.cell? a = some v) : a = ⟨a.block, a.off, none⟩ := by
  unfold World.cell? at h
  split at h
  · split at h
    · cases h
    · rename_i hs
      cases a with
      | mk b o s => cases s with
        | none => rfl
        | some x => simp at hs
  · cases h
theorem add_plain' (b o j : Nat) : (⟨b, o, none⟩ : Addr).add j = ⟨b, o + j, none⟩ := by unfold Addr.add; split <;> simp_all

/-- What strconv's variables hold. -/
structure Globs (w : World) : Prop where
  tab : Lib.TabIs Tryd.prog w "internal/strconv.uint64pow10" .u64 Lib.pow10Tab
  syn : ∃ ev, w.cell? ⟨4, 0, none⟩ = some ev ∧ (ev = .nilIface ∨ ∃ te pe, ev = .iface te pe)
  rng : ∃ ev, w.cell? ⟨5, 0, none⟩ = some ev ∧ (ev = .nilIface ∨ ∃ te pe, ev = .iface te pe)
theorem Globs.below {w w' : World} (h : Globs w) (hb : Below w.heap.size w w') : Globs w' := by
  obtain ⟨e1, c1, k1⟩ := h.syn
  obtain ⟨e2, c2, k2⟩ := h.rng
  exact ⟨TabIs_keep (g := 1) (by kernel_rfl) h.tab hb, ⟨e1, pw_cell_below hb c1, k1⟩, ⟨e2, pw_cell_below hb c2, k2⟩⟩

/-- The variables lie below the reader's world. -/
theorem Globs.from {w0 w : World} (h : Globs w0) (hb : Below w0.heap.size w0 w) : Globs w := h.below hb

def strconv_Itoa.f (n : Int) : Option ByteArray := if -9223372036854775808 ≤ n ∧ n ≤ 9223372036854775807 then some ⟨(Lib.itoa n).toArray⟩ else none
theorem strconv_Itoa.calls (a0 : Int) (r : ByteArray) (w : World) (h : strconv_Itoa.f a0 = some r) (hG : Globs w) :
    Calls Tryd.prog 51 #[.int .i64 a0] w fun e w' => e = .returned (.string r) ∧ Below w.heap.size w w' := by
  unfold strconv_Itoa.f at h
  split at h
  · rename_i hn
    obtain rfl := Option.some.inj h
    refine (Tryd.strconv_Itoa a0 hn.1 hn.2 w hG.tab).mono ?_
    rintro e w' ⟨rfl, k, os, rfl⟩
    exact ⟨rfl, below_grow _ _ _⟩
  · cases h

def strconv_FormatInt.f (n b : Int) : Option ByteArray := if -9223372036854775808 ≤ n ∧ n ≤ 9223372036854775807 ∧ b = 10 then some ⟨(Lib.itoa n).toArray⟩ else none
theorem strconv_FormatInt.calls (a0 a1 : Int) (r : ByteArray) (w : World) (h : strconv_FormatInt.f a0 a1 = some r) (hG : Globs w) :
    Calls Tryd.prog 53 #[.int .i64 a0, .int .i64 a1] w fun e w' => e = .returned (.string r) ∧ Below w.heap.size w w' := by
  unfold strconv_FormatInt.f at h
  split at h
  · rename_i hn
    obtain rfl := Option.some.inj h
    obtain ⟨h0, h1, rfl⟩ := hn
    refine (Tryd.strconv_FormatInt_10 a0 h0 h1 w hG.tab).mono ?_
    rintro e w' ⟨rfl, k, os, rfl⟩
    exact ⟨rfl, below_grow _ _ _⟩
  · cases h

def strings_Join.f (l0 : List ByteArray) (a1 : ByteArray) : Option ByteArray :=
  if l0.length ≤ 140737488355328 ∧ (Lib.join (l0.map (·.data.toList)) a1.data.toList).length ≤ 140737488355328 then some ⟨(Lib.join (l0.map (·.data.toList)) a1.data.toList).toArray⟩ else none
theorem strings_Join.calls (A0 : Option Addr) (c0 : Nat) (l0 : List ByteArray) (a1 : ByteArray) (r : ByteArray) (w : World) (hr0 : Kd.C Kd.string w A0 l0.length l0) (hc0 : l0.length ≤ c0) (h : strings_Join.f l0 a1 = some r) :
    Calls Tryd.prog 25 #[.slice A0 l0.length c0, .string a1] w fun e w' => e = .returned (.string r) ∧ Below w.heap.size w w' := by
  unfold strings_Join.f at h
  split at h
  · rename_i hn
    obtain rfl := Option.some.inj h
    cases l0 with
    | nil =>
      refine (Tryd.strings_Join_none A0 c0 a1 w).mono ?_
      rintro e w' ⟨rfl, rfl⟩
      exact ⟨rfl, Below.refl _ _⟩
    | cons x xs =>
      obtain ⟨ad, e, hall⟩ := hr0.2.2 (by simp)
      subst e
      have hcell : ∀ (j : Nat) y, (x :: xs)[j]? = some y → w.cell? (ad.add j) = some (.string y) := by
        intro j y hy
        obtain ⟨cs, hl, hK, hc⟩ := hall j y hy
        have hK' : cs = [.string y] := hK
        subst hK'
        have := hc 0 _ rfl
        have hsz : Kd.string.sz = 1 := rfl
        simpa [hsz] using this
      have h0 := hcell 0 x rfl
      have ea : ad = ⟨ad.block, ad.off, none⟩ := spot_none (by simpa [Addr.add] using h0)
      have hbk : ad.block < w.heap.size := by
        have := World.block_lt_of_cell? w _ (show w.cell? ad = some (.string x) by simpa [Addr.add] using h0)
        exact this
      rw [ea]
      refine (Tryd.strings_Join ad.block ad.off c0 (x :: xs) a1 w (fun j y hy => ?_) hbk hn.1 hc0 hn.2).mono ?_
      · rw [← add_plain', ← ea]; exact hcell j y hy
      · rintro e w' ⟨rfl, hb⟩
        exact ⟨rfl, hb⟩
  · cases h
end Go.Proofs.YtglcajijmkianaaDoor.A
