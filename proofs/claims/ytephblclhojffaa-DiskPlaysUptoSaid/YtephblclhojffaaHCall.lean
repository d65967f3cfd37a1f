/- The disk's counters: call, later, Space, Stop, Refuse. -/
import Derived.Test.YtephblclhojffaaAx0
import Derived.Test.YtephblclhojffaaHRep
import Derived.IntWalk
namespace Go.Proofs.Ytephblclhojffaa.A
open Go.RowKit Go.Proofs.YtephblclhojffaaW.PrintWords Go.Proofs.YtephblclhojffaaW.PrintLast Go.Proofs.YtephblclhojffaaW.PrintMore
set_option linter.unusedVariables false
set_option linter.unusedSimpArgs false

set_option maxHeartbeats 1000000 in
theorem call_run (w : World) (db dm sm : Nat) (chs : Value) (sp ca ha de : Int) (hc0 : 0 ≤ ca) (hc1 : ca < 4611686018427387904)
    (hb : w.heap[db]? = some (.cells #[.int .i64 sp, .map (some dm), .map (some sm), chs, .int .i64 ca, .int .i64 ha, .int .i64 de] 64 (0, 0))) :
    Calls Try.prog 52 #[.pointer (some ⟨db, 0, none⟩)] w fun e w' => e = .returned (.int .i64 (if ha ≤ ca then 11 else if ca = de then 9 else 0)) ∧ w' = w.setCell ⟨db, 4, none⟩ (.int .i64 (ca + 1)) := by
  have c4 := cells_of hb 4 rfl
  have c5 := cells_of hb 5 rfl
  have c6 := cells_of hb 6 rfl
  have f4 := free_of hb 4
  clear hb
  by_cases h1 : ha ≤ ca
  · go_enter Try.func52, Try.ntmps52
    go_wp2
    go_ret
    exact ⟨rfl, rfl⟩
  · by_cases h2 : ca = de
    · go_enter Try.func52, Try.ntmps52
      go_wp2
      go_ret
      exact ⟨rfl, rfl⟩
    · go_enter Try.func52, Try.ntmps52
      go_wp2
      go_ret
      exact ⟨rfl, rfl⟩

theorem max0 (n : Int) : (if n < 0 then (0 : Int) else n) = mx0 n := rfl
section
variable {pl : Bool} {w : World} {own : Nat → Prop} {fb : List Nat} {db dm sm : Nat} {chs : Value} {sl xs : List Value} {M : DM}
theorem field_set (h : DiskR pl w own db dm sm chs fb sl xs M) (j : Nat) (v : Value) : (∀ k, own k → k ≠ db → (w.setCell ⟨db, j, none⟩ v).heap[k]? = w.heap[k]?) ∧ w.heap.size ≤ (w.setCell ⟨db, j, none⟩ v).heap.size ∧ Only w (w.setCell ⟨db, j, none⟩ v) (· = db) :=
  ⟨fun k _ hn => Below.heap_setCell _ _ _ _ hn, by simp [World.setCell], Only.setCell (S := fun k => k = db) rfl v⟩
theorem call.calls (h : DiskR pl w own db dm sm chs fb sl xs M) (hc0 : 0 ≤ M.calls) (hc1 : M.calls < 4611686018427387904) :
    Calls Try.prog 52 #[.pointer (some ⟨db, 0, none⟩)] w fun e w' => e = .returned (.int .i64 (callE M)) ∧ DiskR pl w' own db dm sm chs fb sl xs (tick M) ∧ Only w w' (· = db) ∧ w'.heap.size = w.heap.size := by
  refine (call_run w db dm sm chs _ _ _ _ hc0 hc1 h.bdb).mono ?_
  rintro e w' ⟨rfl, rfl⟩
  obtain ⟨h1, h2, h3⟩ := field_set h 4 (.int .i64 (M.calls + 1))
  exact ⟨rfl, h.fields h1 h2 M.space (M.calls + 1) M.halt M.deny (heap_set h.bdb 4 _), h3, by simp [World.setCell]⟩

set_option maxHeartbeats 1000000 in
theorem Space.calls (h : DiskR pl w own db dm sm chs fb sl xs M) (n : Int) :
    Calls Try.prog 28 #[.pointer (some ⟨db, 0, none⟩), .int .i64 n] w fun e w' => e = .returned (.tuple #[]) ∧ DiskR pl w' own db dm sm chs fb sl xs (spaceF M n) ∧ Only w w' (· = db) := by
  obtain ⟨h1, h2, h3⟩ := field_set h 0 (.int .i64 (mx0 n))
  have H := Aside0.mk (show DiskR pl _ own db dm sm chs fb sl xs (spaceF M n) from h.fields h1 h2 (mx0 n) M.calls M.halt M.deny (heap_set h.bdb 0 _))
  have c0 := cells_of h.bdb 0 rfl
  have f0 := free_of h.bdb 0
  clear h h1 h2
  have H3 := Aside0.mk h3
  clear h3
  by_cases hn : n < 0
  · have e : mx0 n = 0 := if_pos hn
    rw [e] at H H3
    go_enter Try.func28, Try.ntmps28
    go_wp2
    go_end0
    exact ⟨rfl, H.out, H3.out⟩
  · have e : mx0 n = n := if_neg hn
    rw [e] at H H3
    go_enter Try.func28, Try.ntmps28
    go_wp2
    go_end0
    exact ⟨rfl, H.out, H3.out⟩

set_option maxHeartbeats 1000000 in
theorem later.calls (h : DiskR pl w own db dm sm chs fb sl xs M) (n : Int) (hc0 : 0 ≤ M.calls) (hc1 : M.calls < 4611686018427387904) :
    Calls Try.prog 63 #[.pointer (some ⟨db, 0, none⟩), .int .i64 n] w fun e w' => e = .returned (.int .i64 (laterF M n)) ∧ w' = w := by
  have c4 := cells_of h.bdb 4 rfl
  clear h
  by_cases hn : n < 0
  · have e := Aside0.mk (show laterF M n = never from if_pos (.inl hn))
    go_enter Try.func63, Try.ntmps63
    go_wp2
    go_ret
    exact ⟨by rw [e.out]; rfl, rfl⟩
  · by_cases hf : 1099511627776 < n
    · have e := Aside0.mk (show laterF M n = never from if_pos (.inr hf))
      have hn' : decide (n < 0) = false := by simpa using hn
      go_enter Try.func63, Try.ntmps63
      go_wp2
      go_ret
      exact ⟨by rw [e.out]; rfl, rfl⟩
    · have e := Aside0.mk (show laterF M n = M.calls + n from if_neg (by omega))
      have hn' : decide (n < 0) = false := by simpa using hn
      have hf' : decide (1099511627776 < n) = false := by simpa using hf
      have a1 : 0 ≤ n := by omega
      have a2 : n ≤ 1099511627776 := by omega
      go_enter Try.func63, Try.ntmps63
      go_wp2
      go_ret
      exact ⟨by rw [e.out]; rfl, rfl⟩

set_option maxHeartbeats 1000000 in
theorem Stop.calls (h : DiskR pl w own db dm sm chs fb sl xs M) (n : Int) (hc0 : 0 ≤ M.calls) (hc1 : M.calls < 4611686018427387904) :
    Calls Try.prog 39 #[.pointer (some ⟨db, 0, none⟩), .int .i64 n] w fun e w' => e = .returned (.tuple #[]) ∧ DiskR pl w' own db dm sm chs fb sl xs (stopF M n) ∧ Only w w' (· = db) := by
  obtain ⟨h1, h2, h3⟩ := field_set h 5 (.int .i64 (laterF M n))
  have H := Aside0.mk (show DiskR pl _ own db dm sm chs fb sl xs (stopF M n) from h.fields h1 h2 M.space M.calls (laterF M n) M.deny (heap_set h.bdb 5 _))
  have c0 := cells_of h.bdb 5 rfl
  have f0 := free_of h.bdb 5
  have hl := later.calls h n hc0 hc1
  have H3 := Aside0.mk h3
  clear h h1 h2 h3
  go_enter Try.func39, Try.ntmps39
  go_wp2_with (go_at_call 63; refine hl.mono ?_; rintro e w' ⟨rfl, rfl⟩)
  go_end0
  exact ⟨rfl, H.out, H3.out⟩
set_option maxHeartbeats 1000000 in
theorem Refuse.calls (h : DiskR pl w own db dm sm chs fb sl xs M) (n : Int) (hc0 : 0 ≤ M.calls) (hc1 : M.calls < 4611686018427387904) :
    Calls Try.prog 40 #[.pointer (some ⟨db, 0, none⟩), .int .i64 n] w fun e w' => e = .returned (.tuple #[]) ∧ DiskR pl w' own db dm sm chs fb sl xs (refuseF M n) ∧ Only w w' (· = db) := by
  obtain ⟨h1, h2, h3⟩ := field_set h 6 (.int .i64 (laterF M n))
  have H := Aside0.mk (show DiskR pl _ own db dm sm chs fb sl xs (refuseF M n) from h.fields h1 h2 M.space M.calls M.halt (laterF M n) (heap_set h.bdb 6 _))
  have c0 := cells_of h.bdb 6 rfl
  have f0 := free_of h.bdb 6
  have hl := later.calls h n hc0 hc1
  have H3 := Aside0.mk h3
  clear h h1 h2 h3
  go_enter Try.func40, Try.ntmps40
  go_wp2_with (go_at_call 63; refine hl.mono ?_; rintro e w' ⟨rfl, rfl⟩)
  go_end0
  exact ⟨rfl, H.out, H3.out⟩

/-! ### looking a name up -/
theorem zero56 (w : World) : (zeroValue 56).run Try.prog w = .ok (.pointer none) w := by kernel_rfl
theorem strKey : Go.Maps.Keyed Try.prog 9 := Go.Maps.string_keyed Try.underlying9
theorem look {b : Nat} {d : Dir} (h : MapR w own fb b d) (nm : ByteArray) (hs : nm.size ≤ maxLen) :
    (Instr.lookup 61 (.map (some b)) (.string nm) false).run Try.prog w = .ok (ptrV ((dGet d nm.data.toList).map (fbG fb))) w := by
  obtain ⟨v, ps, hrun, hv⟩ := h.owns.lookup strKey Try.underlying61 (zero56 w) (zd := .nil) (zp := []) rfl (Go.WideMaps.keyOf_string_mk Try.underlying9 hs)
  rw [dirD_at] at hv
  obtain ⟨rfl, _⟩ := ptrElem_inv hv
  exact hrun
/-- What named answers. -/
def namedE (M : DM) (k : Bs) : Int := if callE M ≠ 0 then callE M else if (dGet M.dir k).isNone then 12 else 0
def namedV (fb : List Nat) (M : DM) (k : Bs) : Value := if callE M ≠ 0 then .pointer none else ptrV ((dGet M.dir k).map (fbG fb))
theorem callE_cases (M : DM) : callE M = 0 ∨ callE M = 11 ∨ callE M = 9 := by unfold callE; split <;> (try split) <;> simp
set_option maxHeartbeats 1000000 in
theorem named.calls (h : DiskR pl w own db dm sm chs fb sl xs M) (nm : ByteArray) (hs : nm.size ≤ maxLen) (hc0 : 0 ≤ M.calls) (hc1 : M.calls < 4611686018427387904) :
    Calls Try.prog 56 #[.pointer (some ⟨db, 0, none⟩), .string nm] w fun e w' => e = .returned (.tuple #[namedV fb M nm.data.toList, .int .i64 (namedE M nm.data.toList)]) ∧ DiskR pl w' own db dm sm chs fb sl xs (tick M) ∧ Only w w' (· = db) ∧ w'.heap.size = w.heap.size := by
  have hcall := call.calls h hc0 hc1
  by_cases he : callE M = 0
  · rw [he] at hcall
    have HE := Aside0.mk he
    clear he
    cases hg : dGet M.dir nm.data.toList with
    | none =>
      have e1 := Aside0.mk (show namedV fb M nm.data.toList = .pointer none by unfold namedV; rw [if_neg (by rw [HE.out]; simp), hg]; rfl)
      have e2 := Aside0.mk (show namedE M nm.data.toList = 12 by unfold namedE; rw [if_neg (by rw [HE.out]; simp), hg]; rfl)
      have HG := Aside0.mk hg
      clear hg h
      go_enter Try.func56, Try.ntmps56
      go_wp2_with fail
      refine hcall.mono ?_
      rintro e w1 ⟨rfl, h1, h2, h3⟩
      have hl := look h1.dirR nm hs
      have c1 := cells_of h1.bdb 1 rfl
      rw [show (tick M).dir = M.dir from rfl, HG.out] at hl
      have H1 := Aside0.mk h1; have H2 := Aside0.mk h2; have H3 := Aside0.mk h3
      clear h1 h2 h3
      simp only [Option.map_none, ptrV] at hl
      go_wp2
      go_ret2
      exact ⟨by rw [e1.out, e2.out]; rfl, H1.out, H2.out, H3.out⟩
    | some i =>
      have e1 := Aside0.mk (show namedV fb M nm.data.toList = .pointer (some ⟨fbG fb i, 0, none⟩) by unfold namedV; rw [if_neg (by rw [HE.out]; simp), hg]; rfl)
      have e2 := Aside0.mk (show namedE M nm.data.toList = 0 by unfold namedE; rw [if_neg (by rw [HE.out]; simp), hg]; rfl)
      have HG := Aside0.mk hg
      clear hg h
      go_enter Try.func56, Try.ntmps56
      go_wp2_with fail
      refine hcall.mono ?_
      rintro e w1 ⟨rfl, h1, h2, h3⟩
      have hl := look h1.dirR nm hs
      have c1 := cells_of h1.bdb 1 rfl
      rw [show (tick M).dir = M.dir from rfl, HG.out] at hl
      have H1 := Aside0.mk h1; have H2 := Aside0.mk h2; have H3 := Aside0.mk h3
      clear h1 h2 h3
      simp only [Option.map_some, ptrV] at hl
      go_wp2
      go_ret2
      exact ⟨by rw [e1.out, e2.out]; rfl, H1.out, H2.out, H3.out⟩
  · have e1 := Aside0.mk (show namedV fb M nm.data.toList = .pointer none from if_pos he)
    have e2 := Aside0.mk (show namedE M nm.data.toList = callE M from if_pos he)
    have hne : (callE M == 0) = false := by simpa using he
    have hne2 : (callE M != 0) = true := by simpa using he
    clear h he
    go_enter Try.func56, Try.ntmps56
    go_wp2_with fail
    refine hcall.mono ?_
    rintro e w1 ⟨rfl, h1, h2, h3⟩
    have H1 := Aside0.mk h1; have H2 := Aside0.mk h2; have H3 := Aside0.mk h3
    clear h1 h2 h3
    go_wp2
    go_ret2
    exact ⟨by rw [e1.out, e2.out]; rfl, H1.out, H2.out, H3.out⟩
end
end Go.Proofs.Ytephblclhojffaa.A
