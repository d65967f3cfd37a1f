/- Two disks beside one another; a step that fails changes nothing. -/
import Derived.Test.YtephblclhojffaaAx0
import Derived.Test.YtephblclhojffaaHAtO
namespace Go.Proofs.Ytephblclhojffaa.A
open Go.RowKit Go.Proofs.YtephblclhojffaaW.PrintWords Go.Proofs.YtephblclhojffaaW.PrintLast Go.Proofs.YtephblclhojffaaW.PrintMore
open Go.Maps
set_option linter.unusedVariables false
set_option linter.unusedSimpArgs false

theorem fail_tick {M : DM} {k : Int} {a b : Bs} {x : Int} {keep : List Int} (h0 : 0 ≤ k) (h5 : k ≤ 5) (he : (doesF M k a b x keep).2 ≠ 0) : (doesF M k a b x keep).1 = tick M := by
  have hk : k = 0 ∨ k = 1 ∨ k = 2 ∨ k = 3 ∨ k = 4 ∨ k = 5 := by omega
  rcases hk with rfl | rfl | rfl | rfl | rfl | rfl
  · rw [show doesF M 0 a b x keep = createF M a from rfl] at he ⊢
    unfold createF at he ⊢
    split
    · rfl
    · rename_i h1
      split
      · rfl
      · rename_i h2; rw [if_neg h1, if_neg h2] at he; exact absurd rfl he
  · rw [show doesF M 1 a b x keep = appendF M a b from rfl] at he ⊢
    unfold appendF at he ⊢
    split
    · rfl
    · rename_i h1
      rw [if_neg h1] at he
      split
      · rfl
      · rename_i i hg
        simp only [hg] at he
        split
        · rfl
        · rename_i h2; rw [if_neg h2] at he; exact absurd rfl he
  · rw [show doesF M 2 a b x keep = syncF M a from rfl] at he ⊢
    unfold syncF at he ⊢
    split
    · rfl
    · rename_i h1
      rw [if_neg h1] at he
      split
      · rfl
      · rename_i i hg
        simp only [hg] at he
        exact absurd rfl he
  · rw [show doesF M 3 a b x keep = renameF M a b from rfl] at he ⊢
    unfold renameF at he ⊢
    split
    · rfl
    · rename_i h1
      split
      · rfl
      · rename_i h2; rw [if_neg h1, if_neg h2] at he; exact absurd rfl he
  · rw [show doesF M 4 a b x keep = removeF M a from rfl] at he ⊢
    unfold removeF at he ⊢
    split
    · rfl
    · rename_i h1
      split
      · rfl
      · rename_i h2; rw [if_neg h1, if_neg h2] at he; exact absurd rfl he
  · rw [show doesF M 5 a b x keep = syncDirF M from rfl] at he ⊢
    unfold syncDirF at he ⊢
    split
    · rfl
    · rename_i h1; rw [if_neg h1] at he; exact absurd rfl he

/-- Two disks, no block in common. -/
def Two (w0 w : World) (d e : Nat) (M N : DM) : Prop := ∃ o1 o2, AtO true w0.heap.size w0 w d o1 M ∧ AtO true w0.heap.size w0 w e o2 N ∧ ∀ k, o1 k → ¬ o2 k
section
variable {w0 w w' : World} {d e : Nat} {M N M' : DM} {n t : Nat}
theorem Two.a1 (h : Two w0 w d e M N) : At true w0.heap.size w0 w d M := by
  obtain ⟨_, _, h1, _, _⟩ := h; exact h1.at_
theorem Two.a2 (h : Two w0 w d e M N) : At true w0.heap.size w0 w e N := by
  obtain ⟨_, _, _, h1, _⟩ := h; exact h1.at_
theorem Two.bel (h : Two w0 w d e M N) : Below w0.heap.size w0 w := h.a1.bel
theorem Two.below (h : Two w0 w d e M N) (hb : Below w.heap.size w w') : Two w0 w' d e M N := by
  obtain ⟨o1, o2, h1, h2, h3⟩ := h
  exact ⟨o1, o2, h1.below hb, h2.below hb, h3⟩
theorem Two.swap (h : Two w0 w d e M N) : Two w0 w e d N M := by
  obtain ⟨o1, o2, h1, h2, h3⟩ := h
  exact ⟨o2, o1, h2, h1, fun k a b => h3 k b a⟩
theorem Two.moved {o1 o2 : Nat → Prop} (h1 : AtO true w0.heap.size w0 w d o1 M) (h2 : AtO true w0.heap.size w0 w e o2 N) (h3 : ∀ k, o1 k → ¬ o2 k) (hm : Moved true w0.heap.size w0 w w' d o1 M') : Two w0 w' d e M' N := by
  obtain ⟨o', ha, hb, hW⟩ := hm
  exact ⟨o', o2, ha, h2.only hW h3 h1.2.1, fun k a b => (hb k a).elim (fun c => h3 k c b) (fun c => by have := h2.lt k b; omega)⟩
theorem Two.does1 (h : Two w0 w d e M N) (hI : Inv M n t) (hn : n < 500000) (ht : t ≤ 1099511627776) (o : S24) (Ak : Option Addr) (ck : Nat) (hk : Kd.C (Kd.int .i64) w0 Ak o.f4.length o.f4) (hck : o.f4.length ≤ ck) (hs1 : o.f1.size ≤ maxLen) (hs2 : o.f2.size ≤ 1099511627776) :
    Calls Try.prog 19 #[.pointer (some ⟨d, 0, none⟩), .agg #[.int .i64 o.f0, .string o.f1, .string o.f2, .int .i64 o.f3, .slice Ak o.f4.length ck]] w fun x w' => x = .returned (.int .i64 (stepF M o).2) ∧ Two w0 w' d e (stepF M o).1 N := by
  obtain ⟨o1, o2, h1, h2, h3⟩ := h
  refine (h1.does hI hn ht o Ak ck hk hck hs1 hs2).mono ?_
  rintro x w' ⟨rfl, hm⟩
  exact ⟨rfl, Two.moved h1 h2 h3 hm⟩
theorem Two.does2 (h : Two w0 w d e M N) (hI : Inv N n t) (hn : n < 500000) (ht : t ≤ 1099511627776) (o : S24) (Ak : Option Addr) (ck : Nat) (hk : Kd.C (Kd.int .i64) w0 Ak o.f4.length o.f4) (hck : o.f4.length ≤ ck) (hs1 : o.f1.size ≤ maxLen) (hs2 : o.f2.size ≤ 1099511627776) :
    Calls Try.prog 19 #[.pointer (some ⟨e, 0, none⟩), .agg #[.int .i64 o.f0, .string o.f1, .string o.f2, .int .i64 o.f3, .slice Ak o.f4.length ck]] w fun x w' => x = .returned (.int .i64 (stepF N o).2) ∧ Two w0 w' d e M (stepF N o).1 :=
  (h.swap.does1 hI hn ht o Ak ck hk hck hs1 hs2).mono fun _ _ ⟨a, b⟩ => ⟨a, b.swap⟩
theorem Two.crash1 (h : Two w0 w d e M N) (hI : Inv M n t) (hn : n < 500000) (ht : t ≤ 1099511627776) (x : Int) (A : Option Addr) (c : Nat) (keep : List Int) (hk : Kd.C (Kd.int .i64) w0 A keep.length keep) (hc : keep.length ≤ c) :
    Calls Try.prog 13 #[.pointer (some ⟨d, 0, none⟩), .int .i64 x, .slice A keep.length c] w fun z w' => z = .returned (.tuple #[]) ∧ Two w0 w' d e (crashF M x keep) N := by
  obtain ⟨o1, o2, h1, h2, h3⟩ := h
  refine (h1.crash hI hn ht x A c keep hk hc).mono ?_
  rintro z w' ⟨rfl, hm⟩
  exact ⟨rfl, Two.moved h1 h2 h3 hm⟩
theorem Two.crash2 (h : Two w0 w d e M N) (hI : Inv N n t) (hn : n < 500000) (ht : t ≤ 1099511627776) (x : Int) (A : Option Addr) (c : Nat) (keep : List Int) (hk : Kd.C (Kd.int .i64) w0 A keep.length keep) (hc : keep.length ≤ c) :
    Calls Try.prog 13 #[.pointer (some ⟨e, 0, none⟩), .int .i64 x, .slice A keep.length c] w fun z w' => z = .returned (.tuple #[]) ∧ Two w0 w' d e M (crashF N x keep) :=
  (h.swap.crash1 hI hn ht x A c keep hk hc).mono fun _ _ ⟨a, b⟩ => ⟨a, b.swap⟩
theorem two_new (h : At true w0.heap.size w0 w d M) (x : Int) : Calls Try.prog 17 #[.int .i64 x] w fun z w' => ∃ e, z = .returned (.pointer (some ⟨e, 0, none⟩)) ∧ Two w0 w' d e M (newF x) := by
  obtain ⟨o1, h1⟩ := h.opened
  refine (New.calls x w).mono ?_
  rintro z w' ⟨e, own, rfl, hD, hb, ho⟩
  refine ⟨e, rfl, o1, own, h1.below hb, ⟨hD, fun k hk => Nat.le_trans h1.2.2.2 (ho k hk), h1.2.2.1.trans (hb.mono h1.2.2.2), Nat.le_trans h1.2.2.2 hb.size⟩, fun k a b => ?_⟩
  have := h1.lt k a
  have := ho k b
  omega
end
end Go.Proofs.Ytephblclhojffaa.A
