/- strconv.Itoa at every number, out of the shelf's contracts; in every world that holds strconv's table and errors. -/
import Derived.Test.YteddgkkggjfmpaaDoorKnAx0
import Derived.Test.YteddgkkggjfmpaaDoorKnShelf
import Derived.Shelf.Strconv.Itoa4
namespace Go.Proofs.YteddgkkggjfmpaaDoor.A
open Go.RowKit Go.Proofs.YteddgkkggjfmpaaDoorW.PrintWords Go.Proofs.YteddgkkggjfmpaaDoorW.PrintLast Go.Proofs.YteddgkkggjfmpaaDoorW.PrintMore
open Go.Shelf Go.Lib Go.Sort
set_option linter.unusedVariables false
set_option linter.unusedSimpArgs false
theorem TabIs_keep {P : Program} {n : String} {g : Nat} {k : IntKind} {zs : List Int} {w w' : World} (hg : P.globalNamed n = some g) (h : Lib.TabIs P w n k zs) (hb : Below w.heap.size w w') : Lib.TabIs P w' n k zs := by
  unfold Lib.TabIs World.var? at h ⊢
  rw [hg] at h ⊢
  simp only [Option.bind_some] at h ⊢
  have hlt : g < w.heap.size := by
    rcases Nat.lt_or_ge g w.heap.size with h' | h'
    · exact h'
    · rw [Array.getElem?_eq_none h'] at h; cases h
  rw [hb.block g hlt]
  exact h
theorem below_grow (w : World) (q : Nat) (os : Array Obj) : Below w.heap.size w (grow (w.drewN q) os) :=
  ⟨rfl, rfl, rfl, by first | (simp [grow]; done) | (simp [grow]; omega), fun i hi => by
    show ((w.drewN q).heap ++ os)[i]? = _
    rw [Array.getElem?_append_left (by show i < w.heap.size; omega)]
    rfl⟩
structure Globs (w : World) : Prop where
  tab : Lib.TabIs Tryd.prog w "internal/strconv.uint64pow10" .u64 Lib.pow10Tab
  syn : ∃ ev, w.cell? ⟨0, 0, none⟩ = some ev ∧ (ev = .nilIface ∨ ∃ te pe, ev = .iface te pe)
  rng : ∃ ev, w.cell? ⟨1, 0, none⟩ = some ev ∧ (ev = .nilIface ∨ ∃ te pe, ev = .iface te pe)
theorem Globs.below {w w' : World} (h : Globs w) (hb : Below w.heap.size w w') : Globs w' := by
  obtain ⟨e1, c1, k1⟩ := h.syn
  obtain ⟨e2, c2, k2⟩ := h.rng
  exact ⟨TabIs_keep (g := 2) (by kernel_rfl) h.tab hb, ⟨e1, pw_cell_below hb c1, k1⟩, ⟨e2, pw_cell_below hb c2, k2⟩⟩
def strconv_ItoaG.f (n : Int) : Option ByteArray := if -9223372036854775808 ≤ n ∧ n ≤ 9223372036854775807 then some ⟨(Lib.itoa n).toArray⟩ else none
theorem strconv_ItoaG.calls (a0 : Int) (r : ByteArray) (w : World) (h : strconv_ItoaG.f a0 = some r) (hG : Globs w) :
    Calls Tryd.prog 19 #[.int .i64 a0] w fun e w' => e = .returned (.string r) ∧ Below w.heap.size w w' := by
  unfold strconv_ItoaG.f at h
  split at h
  · rename_i hn
    obtain rfl := Option.some.inj h
    refine (Tryd.strconv_Itoa a0 hn.1 hn.2 w hG.tab).mono ?_
    rintro e w' ⟨rfl, k, os, rfl⟩
    exact ⟨rfl, below_grow _ _ _⟩
  · cases h
end Go.Proofs.YteddgkkggjfmpaaDoor.A
