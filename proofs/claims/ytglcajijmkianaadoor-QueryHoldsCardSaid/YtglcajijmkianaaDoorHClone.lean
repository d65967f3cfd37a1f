/- slices.Clone over rows, on every row that takes no more memory than a slice may. -/
import Derived.Test.YtglcajijmkianaaDoorAx0
import Derived.Test.YtglcajijmkianaaDoorHIdx
import Derived.Lib.SliceRun
namespace Go.Proofs.YtglcajijmkianaaDoor.A
open Go.RowKit Go.Proofs.YtglcajijmkianaaDoorW.PrintWords Go.Proofs.YtglcajijmkianaaDoorW.PrintLast Go.Proofs.YtglcajijmkianaaDoorW.PrintMore
set_option linter.unusedVariables false
set_option linter.unusedSimpArgs false

theorem info23 : (Tryd.prog.info? 23).map (fun i => (i.zero, i.size, i.bytes)) = some (some (.agg #[.bool false, .int .i64 0, .string ⟨#[]⟩]), 3, 32) := by kernel_rfl
def api_Value.f (l : List S23) : Option (List S23) := if l.length * 32 ≤ 140737488355328 then some l else none
theorem own_empty23 (w : World) (ok : Nat → Prop) (h : ok w.heap.size) : Kd.R k23 23 (w.alloc (.cells #[] 23)) w.heap.size ok (.slice (some ⟨w.heap.size, 0, none⟩) 0 0) [] := by
  refine ⟨fun k hk => ?_, [], ⟨rfl, .inr ⟨w.heap.size, 0, #[], rfl, Nat.le_refl _, heap_alloc_new w _, Nat.le_refl _, Nat.zero_le _, rfl, rfl⟩⟩, ?_⟩
  · have : w.heap.size = k := by simpa [Value.ownBlock] using hk
    subst this; exact h
  · exact ⟨rfl, fun j p hj => by simp at hj⟩

set_option maxRecDepth 100000 in
set_option maxHeartbeats 4000000 in
theorem api_Value.calls (A0 : Option Addr) (c0 : Nat) (l0 : List S23) (r : List S23) (w : World) (hr0 : Kd.C k23 w A0 l0.length l0) (hc0 : l0.length ≤ c0) (h : api_Value.f l0 = some r) :
    Calls Tryd.prog 39 #[.slice A0 l0.length c0] w fun e w' => ∃ v0_ : Value, e = .returned v0_ ∧ Kd.R k23 23 w' w.heap.size (fun _ => True) v0_ r ∧ Below w.heap.size w w' := by
  unfold api_Value.f at h
  split at h
  case isFalse => cases h
  rename_i hsz
  obtain rfl := Option.some.inj h
  clear h
  have hu43 := Tryd.underlying43
  have hnil := fun W n c => Lib.run_eql_slice_nil (P := Tryd.prog) W 43 23 A0 n c 0 0 hu43
  cases A0 with
  | none =>
    have hl : l0 = [] := by
      cases l0 with
      | nil => rfl
      | cons x xs => obtain ⟨ad, e, _⟩ := hr0.2.2 (by simp); cases e
    subst hl
    go_enter Tryd.func39, Tryd.ntmps39
    go_wp2_with fail
    go_ret
    exact ⟨_, rfl, Kd.R_nil _ _ _ _ _, Below.refl _ _⟩
  | some ad =>
    have HR := Aside0.mk hr0
    have HS : Aside0 ((([] : List S23).length + l0.length) * 32 ≤ 140737488355328) := ⟨by simpa using hsz⟩
    have HM : Aside0 (∀ (W : World) (b : Nat) (ok : Nat → Prop) (x : S23) (cs : List Value), k23.K W x cs → k23.M W b ok x cs) := ⟨fun W b ok x cs hx => by obtain rfl := k23_open hx; exact k23_mkM _ _ _ x⟩
    clear hr0 hsz
    go_enter Tryd.func39, Tryd.ntmps39
    go_wp2_with (at_builtin; refine Kd.R_append_rows k23 (Rr := k23.K (w.alloc (.cells #[] 23))) (w0 := w) w.heap.size rfl (.tmp 5) (.tmp 6) 43 23 (.agg #[.bool false, .int .i64 0, .string ⟨#[]⟩]) 32 rfl hu43 info23 rfl (by decide) (by decide) (.slice (some ⟨w.heap.size, 0, none⟩) 0 0) [] l0 (some ad) l0.length c0 (fun _ => True) (fun _ => False) rfl rfl (own_empty23 w _ trivial) (Kd.C_below HR.out (below_alloc (Below.refl _ _) _)) (HM.out _ _ _) (fun _ hk => hk.elim) (fun _ _ => trivial) (below_alloc (Below.refl _ _) _) (by simp) HS.out ?_; intro v1 w1 hR1 hB1 hg1 _)
    have HR1 := Aside0.mk hR1
    have HB1 := Aside0.mk hB1
    clear hR1 hB1 hg1
    go_wp2_with fail
    go_ret
    exact ⟨_, rfl, by simpa using HR1.out, HB1.out⟩
end Go.Proofs.YtglcajijmkianaaDoor.A
