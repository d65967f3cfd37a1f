/- DiskNil's walk: a disk that isn't there. -/
import Derived.Test.YtephblclhojffaaAx0
import Derived.Test.YtephblclhojffaaAx1
import Derived.Test.YtephblclhojffaaHLives
namespace Go.Proofs.Ytephblclhojffaa.A
open Go.RowKit Go.Proofs.YtephblclhojffaaW.PrintWords Go.Proofs.YtephblclhojffaaW.PrintLast Go.Proofs.YtephblclhojffaaW.PrintMore
open Go.Maps
set_option linter.unusedVariables false
set_option linter.unusedSimpArgs false

theorem call_nil.calls (w : World) : Calls Try.prog 52 #[.pointer none] w fun e w' => e = .returned (.int .i64 1) ∧ w' = w := by
  go_enter Try.func52, Try.ntmps52
  go_wp2
  go_ret
  exact ⟨rfl, rfl⟩
theorem named_nil.calls (nm : ByteArray) (w : World) : Calls Try.prog 56 #[.pointer none, .string nm] w fun e w' => e = .returned (.tuple #[.pointer none, .int .i64 1]) ∧ w' = w := by
  go_enter Try.func56, Try.ntmps56
  go_wp2_with (go_at_call 52; refine (call_nil.calls w).mono ?_; rintro e w' ⟨rfl, rfl⟩)
  go_ret2
  exact ⟨rfl, rfl⟩
theorem Create_nil.calls (x : ByteArray) (w : World) : Calls Try.prog 26 #[.pointer none, .string x] w fun e w' => e = .returned (.int .i64 1) ∧ Below w.heap.size w w' := by
  go_enter Try.func26, Try.ntmps26
  go_wp2_with (go_at_call 52; refine (call_nil.calls _).mono ?_; rintro e w' ⟨rfl, rfl⟩)
  go_ret
  exact ⟨rfl, (Below.refl _ _).alloc (Nat.le_refl _) _⟩
theorem Append_nil.calls (x y : ByteArray) (w : World) : Calls Try.prog 29 #[.pointer none, .string x, .string y] w fun e w' => e = .returned (.int .i64 1) ∧ Below w.heap.size w w' := by
  go_enter Try.func29, Try.ntmps29
  go_wp2_with (go_at_call 56; refine (named_nil.calls _ _).mono ?_; rintro e w' ⟨rfl, rfl⟩)
  go_ret
  exact ⟨rfl, Below.refl _ _⟩
theorem Sync_nil.calls (x : ByteArray) (w : World) : Calls Try.prog 30 #[.pointer none, .string x] w fun e w' => e = .returned (.int .i64 1) ∧ Below w.heap.size w w' := by
  go_enter Try.func30, Try.ntmps30
  go_wp2_with (go_at_call 56; refine (named_nil.calls _ _).mono ?_; rintro e w' ⟨rfl, rfl⟩)
  go_ret
  exact ⟨rfl, Below.refl _ _⟩
theorem Rename_nil.calls (x y : ByteArray) (w : World) : Calls Try.prog 37 #[.pointer none, .string x, .string y] w fun e w' => e = .returned (.int .i64 1) ∧ Below w.heap.size w w' := by
  go_enter Try.func37, Try.ntmps37
  go_wp2_with (go_at_call 56; refine (named_nil.calls _ _).mono ?_; rintro e w' ⟨rfl, rfl⟩)
  go_ret
  exact ⟨rfl, ((Below.refl _ _).alloc (Nat.le_refl _) _).alloc (by simp) _⟩
theorem Remove_nil.calls (x : ByteArray) (w : World) : Calls Try.prog 38 #[.pointer none, .string x] w fun e w' => e = .returned (.int .i64 1) ∧ Below w.heap.size w w' := by
  go_enter Try.func38, Try.ntmps38
  go_wp2_with (go_at_call 56; refine (named_nil.calls _ _).mono ?_; rintro e w' ⟨rfl, rfl⟩)
  go_ret
  exact ⟨rfl, (Below.refl _ _).alloc (Nat.le_refl _) _⟩
theorem SyncDir_nil.calls  (w : World) : Calls Try.prog 31 #[.pointer none] w fun e w' => e = .returned (.int .i64 1) ∧ Below w.heap.size w w' := by
  go_enter Try.func31, Try.ntmps31
  go_wp2_with (go_at_call 52; refine (call_nil.calls _).mono ?_; rintro e w' ⟨rfl, rfl⟩)
  go_ret
  exact ⟨rfl, Below.refl _ _⟩
theorem Space_nil.calls (x : Int) (w : World) : Calls Try.prog 28 #[.pointer none, .int .i64 x] w fun e w' => e = .returned (.tuple #[]) ∧ w' = w := by
  go_enter Try.func28, Try.ntmps28
  go_wp2
  go_end0
  exact ⟨rfl, rfl⟩
theorem Stop_nil.calls (x : Int) (w : World) : Calls Try.prog 39 #[.pointer none, .int .i64 x] w fun e w' => e = .returned (.tuple #[]) ∧ w' = w := by
  go_enter Try.func39, Try.ntmps39
  go_wp2
  go_end0
  exact ⟨rfl, rfl⟩
theorem Refuse_nil.calls (x : Int) (w : World) : Calls Try.prog 40 #[.pointer none, .int .i64 x] w fun e w' => e = .returned (.tuple #[]) ∧ w' = w := by
  go_enter Try.func40, Try.ntmps40
  go_wp2
  go_end0
  exact ⟨rfl, rfl⟩
theorem Crash_nil.calls (x : Int) (A : Option Addr) (l c : Nat) (w : World) : Calls Try.prog 13 #[.pointer none, .int .i64 x, .slice A l c] w fun e w' => e = .returned (.tuple #[]) ∧ w' = w := by
  go_enter Try.func13, Try.ntmps13
  go_wp2
  ((try simp only [Exit.inBlock, Exit.then]); refine bodyPost_ret (results_none rfl _ _ _) rfl ?_)
  exact ⟨rfl, rfl⟩
theorem Held_nil.calls (w : World) : Calls Try.prog 21 #[.pointer none] w fun e w' => e = .returned (.int .i64 0) ∧ w' = w := by
  go_enter Try.func21, Try.ntmps21
  go_wp2_with (go_at_call 15; refine (Names_nil.calls _).mono ?_; rintro e w' ⟨rfl, rfl⟩)
  refine wp_loop_rounds 1 ?_
  rw [rounds_succ]
  go_wp2
  go_ret
  exact ⟨rfl, rfl⟩
def nilE (k : Int) : Int := if k ≤ 5 then 1 else 0
set_option maxHeartbeats 8000000 in
theorem does_nil.calls (o : S24) (Ak : Option Addr) (ck : Nat) (w : World) (HK : Kd.C (Kd.int .i64) w Ak o.f4.length o.f4) (hck : o.f4.length ≤ ck) :
    Calls Try.prog 19 #[.pointer none, .agg #[.int .i64 o.f0, .string o.f1, .string o.f2, .int .i64 o.f3, .slice Ak o.f4.length ck]] w fun e w' => e = .returned (.int .i64 (nilE (kindF o.f0))) ∧ Below w.heap.size w w' := by
  have hbel : Below w.heap.size w (w.alloc (.cells #[.int .i64 o.f0, .string o.f1, .string o.f2, .int .i64 o.f3, .slice Ak o.f4.length ck] 24)) := (Below.refl w.heap.size w).alloc (Nat.le_refl _) _
  have hbox := heap_alloc w (.cells #[.int .i64 o.f0, .string o.f1, .string o.f2, .int .i64 o.f3, .slice Ak o.f4.length ck] 24)
  have hsz0 : (w.alloc (.cells #[.int .i64 o.f0, .string o.f1, .string o.f2, .int .i64 o.f3, .slice Ak o.f4.length ck] 24)).heap.size = w.heap.size + 1 := by simp
  have hkind := kind.calls (w := w.alloc (.cells #[.int .i64 o.f0, .string o.f1, .string o.f2, .int .i64 o.f3, .slice Ak o.f4.length ck] 24)) o Ak ck (Kd.C_below HK hbel) hck
  have b0 := cells_of hbox 0 rfl
  have b1 := cells_of hbox 1 rfl
  have b2 := cells_of hbox 2 rfl
  have b3 := cells_of hbox 3 rfl
  have b4 := cells_of hbox 4 rfl
  have HBL := Aside0.mk hbel; have HBX := Aside0.mk hbox; have HSZ := Aside0.mk hsz0
  clear HK hbel hbox hsz0 hck
  have hu24 := Try.underlying24
  rcases kind_cases o.f0 with e | e | e | e | e | e | e | e | e | e
  · rw [e] at hkind
    have E := Aside0.mk e
    clear e
    go_enter Try.func19, Try.ntmps19
    go_wp2_with fail
    refine hkind.mono ?_
    rintro e w1 ⟨rfl, hb1⟩
    have hx := (hb1.block w.heap.size (by rw [HSZ.out]; omega)).trans HBX.out
    have c1 := cells_of hx 1 rfl
    have c2 := cells_of hx 2 rfl
    have c3 := cells_of hx 3 rfl
    have c4 := cells_of hx 4 rfl
    have HB1 := Aside0.mk (HBL.out.trans (hb1.mono HBL.out.size))
    clear hx hb1
    go_wp2_with fail
    refine (Create_nil.calls o.f1 _).mono ?_
    rintro e w2 ⟨rfl, hb2⟩
    have HB2 := Aside0.mk (HB1.out.trans (hb2.mono HB1.out.size))
    clear hb2
    go_wp2
    go_ret
    exact ⟨by rw [E.out]; rfl, HB2.out⟩
  · rw [e] at hkind
    have E := Aside0.mk e
    clear e
    go_enter Try.func19, Try.ntmps19
    go_wp2_with fail
    refine hkind.mono ?_
    rintro e w1 ⟨rfl, hb1⟩
    have hx := (hb1.block w.heap.size (by rw [HSZ.out]; omega)).trans HBX.out
    have c1 := cells_of hx 1 rfl
    have c2 := cells_of hx 2 rfl
    have c3 := cells_of hx 3 rfl
    have c4 := cells_of hx 4 rfl
    have HB1 := Aside0.mk (HBL.out.trans (hb1.mono HBL.out.size))
    clear hx hb1
    go_wp2_with fail
    refine (Append_nil.calls o.f1 o.f2 _).mono ?_
    rintro e w2 ⟨rfl, hb2⟩
    have HB2 := Aside0.mk (HB1.out.trans (hb2.mono HB1.out.size))
    clear hb2
    go_wp2
    go_ret
    exact ⟨by rw [E.out]; rfl, HB2.out⟩
  · rw [e] at hkind
    have E := Aside0.mk e
    clear e
    go_enter Try.func19, Try.ntmps19
    go_wp2_with fail
    refine hkind.mono ?_
    rintro e w1 ⟨rfl, hb1⟩
    have hx := (hb1.block w.heap.size (by rw [HSZ.out]; omega)).trans HBX.out
    have c1 := cells_of hx 1 rfl
    have c2 := cells_of hx 2 rfl
    have c3 := cells_of hx 3 rfl
    have c4 := cells_of hx 4 rfl
    have HB1 := Aside0.mk (HBL.out.trans (hb1.mono HBL.out.size))
    clear hx hb1
    go_wp2_with fail
    refine (Sync_nil.calls o.f1 _).mono ?_
    rintro e w2 ⟨rfl, hb2⟩
    have HB2 := Aside0.mk (HB1.out.trans (hb2.mono HB1.out.size))
    clear hb2
    go_wp2
    go_ret
    exact ⟨by rw [E.out]; rfl, HB2.out⟩
  · rw [e] at hkind
    have E := Aside0.mk e
    clear e
    go_enter Try.func19, Try.ntmps19
    go_wp2_with fail
    refine hkind.mono ?_
    rintro e w1 ⟨rfl, hb1⟩
    have hx := (hb1.block w.heap.size (by rw [HSZ.out]; omega)).trans HBX.out
    have c1 := cells_of hx 1 rfl
    have c2 := cells_of hx 2 rfl
    have c3 := cells_of hx 3 rfl
    have c4 := cells_of hx 4 rfl
    have HB1 := Aside0.mk (HBL.out.trans (hb1.mono HBL.out.size))
    clear hx hb1
    go_wp2_with fail
    refine (Rename_nil.calls o.f1 o.f2 _).mono ?_
    rintro e w2 ⟨rfl, hb2⟩
    have HB2 := Aside0.mk (HB1.out.trans (hb2.mono HB1.out.size))
    clear hb2
    go_wp2
    go_ret
    exact ⟨by rw [E.out]; rfl, HB2.out⟩
  · rw [e] at hkind
    have E := Aside0.mk e
    clear e
    go_enter Try.func19, Try.ntmps19
    go_wp2_with fail
    refine hkind.mono ?_
    rintro e w1 ⟨rfl, hb1⟩
    have hx := (hb1.block w.heap.size (by rw [HSZ.out]; omega)).trans HBX.out
    have c1 := cells_of hx 1 rfl
    have c2 := cells_of hx 2 rfl
    have c3 := cells_of hx 3 rfl
    have c4 := cells_of hx 4 rfl
    have HB1 := Aside0.mk (HBL.out.trans (hb1.mono HBL.out.size))
    clear hx hb1
    go_wp2_with fail
    refine (Remove_nil.calls o.f1 _).mono ?_
    rintro e w2 ⟨rfl, hb2⟩
    have HB2 := Aside0.mk (HB1.out.trans (hb2.mono HB1.out.size))
    clear hb2
    go_wp2
    go_ret
    exact ⟨by rw [E.out]; rfl, HB2.out⟩
  · rw [e] at hkind
    have E := Aside0.mk e
    clear e
    go_enter Try.func19, Try.ntmps19
    go_wp2_with fail
    refine hkind.mono ?_
    rintro e w1 ⟨rfl, hb1⟩
    have hx := (hb1.block w.heap.size (by rw [HSZ.out]; omega)).trans HBX.out
    have c1 := cells_of hx 1 rfl
    have c2 := cells_of hx 2 rfl
    have c3 := cells_of hx 3 rfl
    have c4 := cells_of hx 4 rfl
    have HB1 := Aside0.mk (HBL.out.trans (hb1.mono HBL.out.size))
    clear hx hb1
    go_wp2_with fail
    refine (SyncDir_nil.calls _).mono ?_
    rintro e w2 ⟨rfl, hb2⟩
    have HB2 := Aside0.mk (HB1.out.trans (hb2.mono HB1.out.size))
    clear hb2
    go_wp2
    go_ret
    exact ⟨by rw [E.out]; rfl, HB2.out⟩
  · rw [e] at hkind
    have E := Aside0.mk e
    clear e
    go_enter Try.func19, Try.ntmps19
    go_wp2_with fail
    refine hkind.mono ?_
    rintro e w1 ⟨rfl, hb1⟩
    have hx := (hb1.block w.heap.size (by rw [HSZ.out]; omega)).trans HBX.out
    have c1 := cells_of hx 1 rfl
    have c2 := cells_of hx 2 rfl
    have c3 := cells_of hx 3 rfl
    have c4 := cells_of hx 4 rfl
    have HB1 := Aside0.mk (HBL.out.trans (hb1.mono HBL.out.size))
    clear hx hb1
    go_wp2_with fail
    refine (Space_nil.calls o.f3 _).mono ?_
    rintro e w2 ⟨rfl, rfl⟩
    go_wp2
    go_ret
    exact ⟨by rw [E.out]; rfl, HB1.out⟩
  · rw [e] at hkind
    have E := Aside0.mk e
    clear e
    go_enter Try.func19, Try.ntmps19
    go_wp2_with fail
    refine hkind.mono ?_
    rintro e w1 ⟨rfl, hb1⟩
    have hx := (hb1.block w.heap.size (by rw [HSZ.out]; omega)).trans HBX.out
    have c1 := cells_of hx 1 rfl
    have c2 := cells_of hx 2 rfl
    have c3 := cells_of hx 3 rfl
    have c4 := cells_of hx 4 rfl
    have HB1 := Aside0.mk (HBL.out.trans (hb1.mono HBL.out.size))
    clear hx hb1
    go_wp2_with fail
    refine (Stop_nil.calls o.f3 _).mono ?_
    rintro e w2 ⟨rfl, rfl⟩
    go_wp2
    go_ret
    exact ⟨by rw [E.out]; rfl, HB1.out⟩
  · rw [e] at hkind
    have E := Aside0.mk e
    clear e
    go_enter Try.func19, Try.ntmps19
    go_wp2_with fail
    refine hkind.mono ?_
    rintro e w1 ⟨rfl, hb1⟩
    have hx := (hb1.block w.heap.size (by rw [HSZ.out]; omega)).trans HBX.out
    have c1 := cells_of hx 1 rfl
    have c2 := cells_of hx 2 rfl
    have c3 := cells_of hx 3 rfl
    have c4 := cells_of hx 4 rfl
    have HB1 := Aside0.mk (HBL.out.trans (hb1.mono HBL.out.size))
    clear hx hb1
    go_wp2_with fail
    refine (Refuse_nil.calls o.f3 _).mono ?_
    rintro e w2 ⟨rfl, rfl⟩
    go_wp2
    go_ret
    exact ⟨by rw [E.out]; rfl, HB1.out⟩
  · rw [e] at hkind
    have E := Aside0.mk e
    clear e
    go_enter Try.func19, Try.ntmps19
    go_wp2_with fail
    refine hkind.mono ?_
    rintro e w1 ⟨rfl, hb1⟩
    have hx := (hb1.block w.heap.size (by rw [HSZ.out]; omega)).trans HBX.out
    have c1 := cells_of hx 1 rfl
    have c2 := cells_of hx 2 rfl
    have c3 := cells_of hx 3 rfl
    have c4 := cells_of hx 4 rfl
    have HB1 := Aside0.mk (HBL.out.trans (hb1.mono HBL.out.size))
    clear hx hb1
    go_wp2_with fail
    refine (Crash_nil.calls o.f3 Ak o.f4.length ck _).mono ?_
    rintro e w2 ⟨rfl, rfl⟩
    go_wp2
    go_ret
    exact ⟨by rw [E.out]; rfl, HB1.out⟩
set_option maxRecDepth 100000 in
set_option maxHeartbeats 8000000 in
theorem DiskNil.walk (o : S24) (Ak : Option Addr) (ck : Nat) (w : World) (HK : Kd.C (Kd.int .i64) w Ak o.f4.length o.f4) (hck : o.f4.length ≤ ck) :
    Calls Try.prog 9 #[.agg #[.int .i64 o.f0, .string o.f1, .string o.f2, .int .i64 o.f3, .slice Ak o.f4.length ck]] w fun e w' => e = .returned (.bool true) ∧ Below w.heap.size w w' := by
  have hbel : Below w.heap.size w (w.alloc (.cells #[.int .i64 o.f0, .string o.f1, .string o.f2, .int .i64 o.f3, .slice Ak o.f4.length ck] 24)) := (Below.refl w.heap.size w).alloc (Nat.le_refl _) _
  have hbox := heap_alloc w (.cells #[.int .i64 o.f0, .string o.f1, .string o.f2, .int .i64 o.f3, .slice Ak o.f4.length ck] 24)
  have HSZ := Aside0.mk (show (w.alloc (.cells #[.int .i64 o.f0, .string o.f1, .string o.f2, .int .i64 o.f3, .slice Ak o.f4.length ck] 24)).heap.size = w.heap.size + 1 by simp)
  have hu24 := Try.underlying24
  have HKK : Aside0 (∀ W, Below w.heap.size w W → Kd.C (Kd.int .i64) W Ak o.f4.length o.f4) := ⟨fun W hb => Kd.C_below HK hb⟩
  have HBX : Aside0 (∀ W, Below (w.heap.size + 1) (w.alloc (.cells #[.int .i64 o.f0, .string o.f1, .string o.f2, .int .i64 o.f3, .slice Ak o.f4.length ck] 24)) W → W.heap[w.heap.size]? = some (.cells #[.int .i64 o.f0, .string o.f1, .string o.f2, .int .i64 o.f3, .slice Ak o.f4.length ck] 24 (0, 0))) := ⟨fun W hb => (hb.block _ (by omega)).trans hbox⟩
  have HBL := Aside0.mk hbel; have HCK := Aside0.mk hck
  clear HK hbel hbox hck
  have hk5 : (kindF o.f0 ≤ 5 ∧ nilE (kindF o.f0) = 1) ∨ (¬ kindF o.f0 ≤ 5 ∧ nilE (kindF o.f0) = 0) := by
    by_cases h : kindF o.f0 ≤ 5
    · exact .inl ⟨h, if_pos h⟩
    · exact .inr ⟨h, if_neg h⟩
  rcases hk5 with ⟨h5, hn⟩ | ⟨h5, hn⟩
  · have H5 := Aside0.mk h5; have HN := Aside0.mk hn
    clear h5 hn
    go_enter Try.func9, Try.ntmps9
    go_wp2_with fail
    refine (lives.calls _).mono ?_
    rintro e w1 ⟨rfl, hb1⟩
    rw [HSZ.out] at hb1
    have x1 := HBX.out w1 hb1
    have a0 := cells_of x1 0 rfl
    have a1 := cells_of x1 1 rfl
    have a2 := cells_of x1 2 rfl
    have a3 := cells_of x1 3 rfl
    have a4 := cells_of x1 4 rfl
    have B1 := Aside0.mk (HBL.out.trans (hb1.mono (by omega)))
    have C1 := Aside0.mk hb1
    have hk1 := HKK.out w1 B1.out
    clear hb1 x1
    have hd := does_nil.calls o Ak ck w1 hk1 HCK.out
    rw [HN.out] at hd
    clear hk1
    go_wp2_with fail
    refine hd.mono ?_
    rintro e w2 ⟨rfl, hb2⟩
    have hs1 : w.heap.size + 1 ≤ w1.heap.size := by have := C1.out.size; rw [HSZ.out] at this; exact this
    have C2 := Aside0.mk (C1.out.trans (hb2.mono hs1))
    have B2 := Aside0.mk (B1.out.trans (hb2.mono B1.out.size))
    have x2 := HBX.out w2 C2.out
    have b0 := cells_of x2 0 rfl
    have b1 := cells_of x2 1 rfl
    have b2 := cells_of x2 2 rfl
    have b3 := cells_of x2 3 rfl
    have b4 := cells_of x2 4 rfl
    clear hb2 x2 hs1 hd a0 a1 a2 a3 a4
    go_wp2_with fail
    refine (Read_nil.calls o.f1 _).mono ?_
    rintro e w3 ⟨rfl, rfl⟩
    have hemp : (bsS []).toList = [] := by rw [ByteArray.toList_eq]; rfl
    generalize bsS [] = sx at hemp ⊢
    go_wp2_with fail
    refine (Names_nil.calls _).mono ?_
    rintro e w4 ⟨rfl, rfl⟩
    go_wp2_with fail
    refine (Held_nil.calls _).mono ?_
    rintro e w5 ⟨rfl, rfl⟩
    go_wp2
    go_ret
    exact ⟨rfl, B2.out⟩
  · have H5 := Aside0.mk h5; have HN := Aside0.mk hn
    clear h5 hn
    go_enter Try.func9, Try.ntmps9
    go_wp2_with fail
    refine (lives.calls _).mono ?_
    rintro e w1 ⟨rfl, hb1⟩
    rw [HSZ.out] at hb1
    have x1 := HBX.out w1 hb1
    have a0 := cells_of x1 0 rfl
    have a1 := cells_of x1 1 rfl
    have a2 := cells_of x1 2 rfl
    have a3 := cells_of x1 3 rfl
    have a4 := cells_of x1 4 rfl
    have B1 := Aside0.mk (HBL.out.trans (hb1.mono (by omega)))
    have C1 := Aside0.mk hb1
    have hk1 := HKK.out w1 B1.out
    clear hb1 x1
    have hd := does_nil.calls o Ak ck w1 hk1 HCK.out
    rw [HN.out] at hd
    clear hk1
    go_wp2_with fail
    refine hd.mono ?_
    rintro e w2 ⟨rfl, hb2⟩
    have hs1 : w.heap.size + 1 ≤ w1.heap.size := by have := C1.out.size; rw [HSZ.out] at this; exact this
    have C2 := Aside0.mk (C1.out.trans (hb2.mono hs1))
    have B2 := Aside0.mk (B1.out.trans (hb2.mono B1.out.size))
    have x2 := HBX.out w2 C2.out
    have b0 := cells_of x2 0 rfl
    have b1 := cells_of x2 1 rfl
    have b2 := cells_of x2 2 rfl
    have b3 := cells_of x2 3 rfl
    have b4 := cells_of x2 4 rfl
    clear hb2 x2 hs1 hd a0 a1 a2 a3 a4
    go_wp2_with fail
    refine (Read_nil.calls o.f1 _).mono ?_
    rintro e w3 ⟨rfl, rfl⟩
    have hemp : (bsS []).toList = [] := by rw [ByteArray.toList_eq]; rfl
    generalize bsS [] = sx at hemp ⊢
    have hki := kind.calls (w := w3) o Ak ck (HKK.out w3 B2.out) HCK.out
    go_wp2_with fail
    refine hki.mono ?_
    rintro e w4 ⟨rfl, hb4⟩
    have B4 := Aside0.mk (B2.out.trans (hb4.mono B2.out.size))
    have g5 : decide (5 < kindF o.f0) = true := by rw [decide_eq_true_eq]; have := H5.out; omega
    clear hb4 hki
    go_wp2_with fail
    refine (Names_nil.calls _).mono ?_
    rintro e w5 ⟨rfl, rfl⟩
    go_wp2_with fail
    refine (Held_nil.calls _).mono ?_
    rintro e w6 ⟨rfl, rfl⟩
    go_wp2
    go_ret
    exact ⟨rfl, B4.out⟩
end Go.Proofs.Ytephblclhojffaa.A
