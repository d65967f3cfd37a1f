/- The reader's query by induction: what words come to, of any words, so many within one another; in every world that holds strconv's table and errors. -/
import Derived.Test.YtglcajijmkianaaDoorAx0
import Derived.Test.YtglcajijmkianaaDoorHQuery
namespace Go.Proofs.YtglcajijmkianaaDoor.A
open Go.RowKit Go.Proofs.YtglcajijmkianaaDoorW.PrintWords Go.Proofs.YtglcajijmkianaaDoorW.PrintLast Go.Proofs.YtglcajijmkianaaDoorW.PrintMore
open Go.Lib
set_option linter.unusedVariables false
set_option linter.unusedSimpArgs false

theorem queryF_stop (left : Nat) (l : List ByteArray) (bad : Bool) (h : (nextF l bad).2.2 = true ∨ left = 0) : queryF left l bad = (z28, (nextF l bad).2.1, true) := by
  unfold queryF
  by_cases h1 : (nextF l bad).2.2 = true
  · simp [h1]
  · rcases h with h | h
    · exact absurd h h1
    · subst h; simp [h1]
theorem queryF_ask (left : Nat) (l : List ByteArray) (bad : Bool) (h : (nextF l bad).2.2 = false) (hw : isS (nextF l bad).1 [40] = false) :
    queryF (left + 1) l bad = ((⟨1, (askF (nextF l bad).2.1 false (nextF l bad).1).1, []⟩, (askF (nextF l bad).2.1 false (nextF l bad).1).2.1, (askF (nextF l bad).2.1 false (nextF l bad).1).2.2) : S28 × List ByteArray × Bool) := by
  rw [queryF]; simp [h, hw]
theorem queryF_not (left : Nat) (l : List ByteArray) (bad : Bool) (x : ByteArray) (xs : List ByteArray) (h : (nextF l bad).2.2 = false) (hw : isS (nextF l bad).1 [40] = true) (hl : (nextF l bad).2.1 = x :: xs) (hx : isS x [110, 111, 116] = true) :
    queryF (left + 1) l bad = ((⟨4, z25, [(queryF left xs false).1]⟩, (nextF (queryF left xs false).2.1 (queryF left xs false).2.2).2.1, (nextF (queryF left xs false).2.1 (queryF left xs false).2.2).2.2 || !(isS (nextF (queryF left xs false).2.1 (queryF left xs false).2.2).1 [41])) : S28 × List ByteArray × Bool) := by
  rw [queryF]
  rw [if_neg (by rw [h]; simp), if_neg (by rw [hw]; simp)]
  simp only [hl]
  rw [if_pos hx]
  rfl
theorem queryF_two (left : Nat) (l : List ByteArray) (bad : Bool) (h : (nextF l bad).2.2 = false) (hw : isS (nextF l bad).1 [40] = true) (hx : (match (nextF l bad).2.1 with | [] => false | x :: _ => isS x [110, 111, 116]) = false) :
    queryF (left + 1) l bad = (let a := queryF left (nextF l bad).2.1 false
        let r2 := nextF a.2.1 a.2.2
        if isS r2.1 [97, 110, 100] = true ∨ isS r2.1 [111, 114] = true then
          let b := queryF left r2.2.1 r2.2.2
          let r3 := nextF b.2.1 b.2.2
          (⟨if isS r2.1 [97, 110, 100] = true then 2 else 3, z25, [a.1, b.1]⟩, r3.2.1, r3.2.2 || !(isS r3.1 [41]))
        else (⟨2, z25, []⟩, r2.2.1, true)) := by
  rw [queryF]
  rw [if_neg (by rw [h]; simp), if_neg (by rw [hw]; simp)]
  exact if_neg (fun e => Bool.false_ne_true (hx.symm.trans e))

theorem query.calls (left : Nat) : left ≤ 1000 → ∀ (n : Int) (w0 w : World) (g : Nat) (l : List ByteArray) (bad : Bool), n = left → IsRd w0 w g l bad → Below w0.heap.size w0 w → Globs w0 →
    Calls Tryd.prog 31 #[.pointer (some ⟨g, 0, none⟩), .int .i64 n] w (QEnd w0 w g (queryF left l bad)) := by
  induction left with
  | zero =>
    intro _ n w0 w g l bad hn hI hB hG
    rw [queryF_stop 0 l bad (.inr rfl)]
    exact query_stop 0 n w0 w g l bad hn hI hB (.inr rfl)
  | succ left ih =>
    intro hl n w0 w g l bad hn hI hB hG
    have ih' := ih (by omega)
    cases hb : (nextF l bad).2.2 with
    | true =>
      rw [queryF_stop _ l bad (.inl hb)]
      exact query_stop (left + 1) n w0 w g l bad hn hI hB (.inl hb)
    | false =>
      cases hw : isS (nextF l bad).1 [40] with
      | false =>
        rw [queryF_ask left l bad hb hw]
        exact query_ask (left + 1) n w0 w g l bad hn (by omega) hI hB hG hb hw
      | true =>
        cases hx : (match (nextF l bad).2.1 with | [] => false | x :: _ => isS x [110, 111, 116]) with
        | true =>
          cases hl1 : (nextF l bad).2.1 with
          | nil => rw [hl1] at hx; cases hx
          | cons x xs =>
            rw [hl1] at hx
            rw [queryF_not left l bad x xs hb hw hl1 hx]
            exact query_not left n w0 w g l bad (by simpa using hn) (by omega) hI hB hG hb hw x xs hl1 hx ih'
        | false =>
          exact query_two left n w0 w g l bad (by simpa using hn) (by omega) hI hB hG hb hw hx ih' _ (queryF_two left l bad hb hw hx)
end Go.Proofs.YtglcajijmkianaaDoor.A
