/- slices.Compact of a row of the call's own: texts. -/
import Derived.Test.YtimjafjicnlhfaaKbAx0
import Derived.Test.YtimjafjicnlhfaaKbHSorted
import Derived.Shelf.Slices.CompactS
namespace Go.Proofs.Ytimjafjicnlhfaa.A
open Go.RowKit Go.Proofs.YtimjafjicnlhfaaW.PrintWords Go.Proofs.YtimjafjicnlhfaaW.PrintLast Go.Proofs.YtimjafjicnlhfaaW.PrintMore
open Go.Shelf Go.Sort Go.Maps
set_option linter.unusedVariables false
set_option linter.unusedSimpArgs false
theorem compact_le (zs : List (List UInt8)) : (Lib.compact zs).length ≤ zs.length := by
  unfold Lib.compact Lib.compactUpTo
  rw [List.length_map]
  exact Nat.le_trans (List.length_filter_le _ _) (by simp)
theorem own_cut {w : World} {base : Nat} {e : TypeId} {g n cap k : Nat} {xs : List Value} (h : w.ownsRow base e 1 (.slice (some ⟨g, 0, none⟩) n cap) n xs) (hk : k ≤ n) : w.ownsRow base e 1 (.slice (some ⟨g, 0, none⟩) k cap) k (xs.take k) := by
  have hl : xs.length = n := by simpa using h.1
  rcases h.2 with ⟨h0, _⟩ | ⟨g', cap', cur, hv, hbg, hg, hnc, hcm, hcs, ht⟩
  · cases h0
  · cases hv
    refine ⟨by rw [List.length_take]; omega, .inr ⟨g, cap, cur, rfl, hbg, hg, by omega, hcm, hcs, ?_⟩⟩
    rw [← ht, List.take_take]
    congr 1
    omega
theorem grow_nil (w : World) : Go.Sort.grow w #[] = w := by simp [Go.Sort.grow]
set_option maxHeartbeats 4000000 in
theorem compactV (base : Nat) (v : Value) (ss : List (List UInt8)) (hl : ss.length ≤ 1048576) (w : World) (ho : w.ownsRow base 9 1 v ss.length (ss.map encStr)) (hb : base ≤ w.heap.size) :
    Calls Try.prog 20 #[v] w fun e w' => ∃ v' : Value, e = .returned v' ∧ w'.ownsRow base 9 1 v' (Lib.compact ss).length ((Lib.compact ss).map encStr) ∧ Below base w w' := by
  rcases ho.2 with ⟨rfl, hz⟩ | ⟨gb, cap, cur, rfl, hbase, hgb, r1, r2, r3, r4⟩
  · have hss : ss = [] := List.eq_nil_of_length_eq_zero hz
    subst hss
    refine (Any.slices_Compact_string_empty Try.lays194 none 0 w).mono ?_
    rintro e w' ⟨rfl, rfl⟩
    exact ⟨_, rfl, ho, Below.refl _ _⟩
  · have hH : Holds encStr w gb 0 ss.toArray := holds_of_block hgb (by simpa using r4)
    refine (Any.slices_Compact_string Try.lays194 gb 0 cap ss w hH (by omega) r1).mono ?_
    rintro e w' ⟨rfl, q, rfl⟩
    have hcl := compact_le ss
    have hlen : (Lib.compact ss ++ List.replicate (ss.length - (Lib.compact ss).length) []).length = ss.length := by
      rw [List.length_append, List.length_replicate]; omega
    have h1 := ownsRow_sorted (os := #[]) (n := q) hlen hbase hgb r1 r2 r3
    have h2 := grownBy_sorted (w := w) (g := gb) (n := q) (os := #[]) (Lib.compact ss ++ List.replicate (ss.length - (Lib.compact ss).length) []).toArray
    rw [grow_nil] at h1 h2
    have h3 := own_cut h1 hcl
    rw [← List.map_take, List.take_left' rfl] at h3
    exact ⟨_, rfl, h3, (Below.refl base w).grown h2 hb (fun j hj => by cases hj; exact hbase)⟩
end Go.Proofs.Ytimjafjicnlhfaa.A
