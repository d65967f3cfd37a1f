/- The reference's dictionary as a plain function: each new text is put where it belongs; it comes to the words in order. And what the reference's With comes to. Plain. -/
import Derived.Test.YtimjafjicnlhfaaKbAx0
import Derived.Test.YtimjafjicnlhfaaKbHRefJ
namespace Go.Proofs.Ytimjafjicnlhfaa.A
open Go.RowKit Go.Proofs.YtimjafjicnlhfaaW.PrintWords Go.Proofs.YtimjafjicnlhfaaW.PrintLast Go.Proofs.YtimjafjicnlhfaaW.PrintMore
set_option linter.unusedVariables false
set_option linter.unusedSimpArgs false
def aheadN (out : List ByteArray) (x : ByteArray) : Nat := (out.takeWhile (fun y => decide (y.data.toList < x.data.toList))).length
def dictStep (out : List ByteArray) (x : ByteArray) : List ByteArray := if 0 ≤ atP out x then out else out.take (aheadN out x) ++ [x] ++ out.drop (aheadN out x)
def dictP (l : List ByteArray) : List ByteArray := l.foldl dictStep []
theorem atP_mem (ws : List ByteArray) (s : ByteArray) : 0 ≤ atP ws s ↔ s ∈ ws := by
  unfold atP
  constructor
  · intro h
    by_cases hp : posP ws s < ws.length
    · have := of_decide_eq_true (List.findIdx_getElem (p := fun x => decide (x = s)) (xs := ws) (w := hp))
      rw [← this]
      exact List.getElem_mem _
    · rw [if_neg hp] at h; omega
  · intro h
    rw [if_pos (posP_lt h)]
    omega
theorem ahead_split : ∀ (out : List ByteArray) (x : ByteArray), Risen out → x ∉ out →
    (∀ y ∈ out.take (aheadN out x), y.data.toList < x.data.toList) ∧ (∀ y ∈ out.drop (aheadN out x), x.data.toList < y.data.toList)
  | [], x, _, _ => ⟨fun y hy => by simp at hy, fun y hy => by simp at hy⟩
  | z :: out, x, h, hn => by
    unfold Risen at h
    rw [List.pairwise_cons] at h
    rw [List.mem_cons, not_or] at hn
    have ih := ahead_split out x h.2 hn.2
    unfold aheadN at ih ⊢
    by_cases hz : z.data.toList < x.data.toList
    · rw [List.takeWhile_cons_of_pos (p := fun y : ByteArray => decide (y.data.toList < x.data.toList)) (decide_eq_true hz), List.length_cons, List.take_succ_cons, List.drop_succ_cons]
      refine ⟨fun y hy => ?_, ih.2⟩
      rcases List.mem_cons.1 hy with rfl | hy
      · exact hz
      · exact ih.1 y hy
    · rw [List.takeWhile_cons_of_neg (p := fun y : ByteArray => decide (y.data.toList < x.data.toList)) (by simpa using hz)]
      refine ⟨fun y hy => (by simp at hy), fun y hy => ?_⟩
      have hxz : x.data.toList < z.data.toList := Decidable.byContradiction fun hc => hn.1 (ba_ext (List.le_antisymm (List.not_lt.1 hz) (List.not_lt.1 hc)))
      rcases List.mem_cons.1 (show y ∈ z :: out from hy) with rfl | hy
      · exact hxz
      · exact List.lt_trans hxz (h.1 y hy)
theorem dictStep_props (out : List ByteArray) (x : ByteArray) (h : Risen out) : Risen (dictStep out x) ∧ ∀ y, y ∈ dictStep out x ↔ y ∈ out ∨ y = x := by
  unfold dictStep
  by_cases hm : 0 ≤ atP out x
  · rw [if_pos hm]
    have := (atP_mem out x).1 hm
    exact ⟨h, fun y => ⟨.inl, fun e => e.elim id (fun e => e ▸ this)⟩⟩
  · rw [if_neg hm]
    have hn : x ∉ out := fun e => hm ((atP_mem out x).2 e)
    have hs := ahead_split out x h hn
    have hsplit : out = out.take (aheadN out x) ++ out.drop (aheadN out x) := (List.take_append_drop _ _).symm
    refine ⟨?_, fun y => ?_⟩
    · unfold Risen at h ⊢
      rw [hsplit, List.pairwise_append] at h
      rw [List.append_assoc, List.pairwise_append, List.pairwise_append]
      refine ⟨h.1, ⟨List.pairwise_singleton _ _, h.2.1, fun a ha b hb => ?_⟩, fun a ha b hb => ?_⟩
      · rw [List.mem_singleton] at ha
        rw [ha]
        exact hs.2 b hb
      · rcases List.mem_append.1 hb with hb | hb
        · rw [List.mem_singleton] at hb
          rw [hb]
          exact hs.1 a ha
        · exact h.2.2 a ha b hb
    · conv => rhs; rw [hsplit]
      simp only [List.mem_append, List.mem_singleton]
      constructor
      · rintro ((h | h) | h)
        · exact .inl (.inl h)
        · exact .inr h
        · exact .inl (.inr h)
      · rintro ((h | h) | h)
        · exact .inl (.inl h)
        · exact .inr h
        · exact .inl (.inr h)
theorem dict_props : ∀ (l out : List ByteArray), Risen out → Risen (l.foldl dictStep out) ∧ ∀ y, y ∈ l.foldl dictStep out ↔ y ∈ out ∨ y ∈ l
  | [], out, h => ⟨h, fun y => by simp⟩
  | x :: l, out, h => by
    have h1 := dictStep_props out x h
    have h2 := dict_props l (dictStep out x) h1.1
    rw [List.foldl_cons]
    refine ⟨h2.1, fun y => ?_⟩
    rw [h2.2, h1.2, List.mem_cons]
    exact or_assoc
theorem dictP_words (l : List ByteArray) : dictP l = wordsP l := by
  have h := dict_props l [] List.Pairwise.nil
  refine risen_ext _ _ h.1 (words_risen l) fun x => ?_
  rw [mem_words, dictP, h.2]
  simp
theorem dictP_snoc (l : List ByteArray) (x : ByteArray) : dictP (l ++ [x]) = dictStep (dictP l) x := by
  unfold dictP
  rw [List.foldl_append]
  rfl
end Go.Proofs.Ytimjafjicnlhfaa.A
