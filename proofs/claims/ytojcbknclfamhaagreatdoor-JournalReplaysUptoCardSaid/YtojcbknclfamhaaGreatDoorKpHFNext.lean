/- frame.next: the frame that comes first. -/
import Derived.Test.YtojcbknclfamhaaGreatDoorKpAx0
import Derived.Test.YtojcbknclfamhaaGreatDoorKpAx4
import Derived.Test.YtojcbknclfamhaaGreatDoorKpHSS
namespace Go.Proofs.YtojcbknclfamhaaGreatDoor.A
open Go.RowKit Go.Proofs.YtojcbknclfamhaaGreatDoorW.PrintWords Go.Proofs.YtojcbknclfamhaaGreatDoorW.PrintLast Go.Proofs.YtojcbknclfamhaaGreatDoorW.PrintMore
set_option linter.unusedVariables false
set_option linter.unusedSimpArgs false
def restAt (s : ByteArray) (n : Nat) : ByteArray := s.extract (4 + n) s.size
def textAt (s : ByteArray) (n : Nat) : ByteArray := s.extract 4 (4 + n)
def frame_next.f (a0 : ByteArray) : Option (ByteArray × ByteArray × Bool × Int) :=
  if a0.size < 4 then some (⟨#[]⟩, a0, false, 0) else
  (frame_get.f 10 a0).bind fun n => if n < 0 then none else if 1048576 < n then some (⟨#[]⟩, a0, false, 8) else
    if a0.size < 8 + n.toNat then some (⟨#[]⟩, a0, false, 0) else if 140737488351232 < a0.size then none else
    (frame_get.f 10 (restAt a0 n.toNat)).bind fun x => (frame_Sum.f (textAt a0 n.toNat)).bind fun y =>
      if x = y then some (textAt a0 n.toNat, (restAt a0 n.toNat).extract 4 (restAt a0 n.toNat).size, true, 0) else some (⟨#[]⟩, a0, false, 8)
set_option maxHeartbeats 8000000 in
set_option maxRecDepth 100000 in
theorem frame_next.calls (a0 : ByteArray) (r1 r2 : ByteArray) (r3 : Bool) (r4 : Int) (w : World) (h : frame_next.f a0 = some (r1, r2, r3, r4)) :
    Calls Tryz.prog 37 #[.string a0] w fun e w' => e = .returned (.tuple #[.string r1, .string r2, .bool r3, .int .i64 r4]) ∧ Below w.heap.size w w' := by
  unfold frame_next.f at h
  by_cases h4 : a0.size < 4
  · rw [if_pos h4] at h
    have h := Option.some.inj h
    simp only [Prod.mk.injEq] at h
    obtain ⟨rfl, rfl, rfl, rfl⟩ := h
    have g1 : decide ((a0.size : Int) < 4) = true := decide_eq_true (by omega)
    have g2 : decide (a0.size < 4) = true := decide_eq_true h4
    go_enter Tryz.func37, Tryz.ntmps37
    go_wp2_with fail
    refine bodyPost_ret (results_list (rs := [.tmp 2, .tmp 3, .tmp 4, .tmp 5]) rfl (by simp) (.tmp (.tmp (.tmp (.tmp .nil))))) rfl ?_
    exact ⟨rfl, Below.refl _ _⟩
  rw [if_neg h4] at h
  have g1 : decide ((a0.size : Int) < 4) = false := decide_eq_false (by omega)
  have g2 : decide (a0.size < 4) = false := decide_eq_false h4
  obtain ⟨n, hn, h⟩ := Option.bind_eq_some_iff.mp h
  by_cases hn0 : n < 0
  · rw [if_pos hn0] at h; exact absurd h (by simp)
  rw [if_neg hn0] at h
  have HN := Aside0.mk hn
  clear hn
  by_cases hb : 1048576 < n
  · rw [if_pos hb] at h
    have h := Option.some.inj h
    simp only [Prod.mk.injEq] at h
    obtain ⟨rfl, rfl, rfl, rfl⟩ := h
    have g3 : decide ((1048576 : Int) < n) = true := decide_eq_true hb
    go_enter Tryz.func37, Tryz.ntmps37
    go_wp2_with fail
    refine (frame_get.calls 10 a0 n w HN.out).mono ?_
    rintro e w1 ⟨rfl, ⟨q1, rfl⟩⟩
    go_wp2_with fail
    refine bodyPost_ret (results_list (rs := [.tmp 2, .tmp 3, .tmp 4, .tmp 5]) rfl (by simp) (.tmp (.tmp (.tmp (.tmp .nil))))) rfl ?_
    exact ⟨rfl, pw_below_drewN (Below.refl _ _) _⟩
  rw [if_neg hb] at h
  have g3 : decide ((1048576 : Int) < n) = false := decide_eq_false hb
  obtain ⟨m, rfl⟩ : ∃ m : Nat, n = (m : Int) := ⟨n.toNat, by omega⟩
  rw [Int.toNat_natCast] at h
  have g4 : IntKind.i64.wrap (m : Int) = (m : Int) := IntWalk.i64_in _ (by omega)
  have g5 : IntKind.i64.wrap (8 + (m : Int)) = ((8 + m : Nat) : Int) := by rw [IntWalk.i64_in _ (by omega)]; push_cast; rfl
  have g3n : decide (1048576 < m) = false := decide_eq_false (by omega)
  by_cases hs : a0.size < 8 + m
  · rw [if_pos hs] at h
    have h := Option.some.inj h
    simp only [Prod.mk.injEq] at h
    obtain ⟨rfl, rfl, rfl, rfl⟩ := h
    have g6 : decide ((a0.size : Int) < ((8 + m : Nat) : Int)) = true := decide_eq_true (by omega)
    have g7 : decide (a0.size < 8 + m) = true := decide_eq_true hs
    have g8 : decide ((a0.size : Int) < 8 + (m : Int)) = true := decide_eq_true (by omega)
    clear h4 hn0 hb
    go_enter Tryz.func37, Tryz.ntmps37
    go_wp2_with fail
    refine (frame_get.calls 10 a0 m w HN.out).mono ?_
    rintro e w1 ⟨rfl, ⟨q1, rfl⟩⟩
    go_wp2_with fail
    refine bodyPost_ret (results_list (rs := [.tmp 2, .tmp 3, .tmp 4, .tmp 5]) rfl (by simp) (.tmp (.tmp (.tmp (.tmp .nil))))) rfl ?_
    exact ⟨rfl, pw_below_drewN (Below.refl _ _) _⟩
  rw [if_neg hs] at h
  have g6 : decide ((a0.size : Int) < ((8 + m : Nat) : Int)) = false := decide_eq_false (by omega)
  have g7 : decide (a0.size < 8 + m) = false := decide_eq_false hs
  have g8 : decide ((a0.size : Int) < 8 + (m : Int)) = false := decide_eq_false (by omega)
  by_cases hbig : 140737488351232 < a0.size
  · rw [if_pos hbig] at h; exact absurd h (by simp)
  rw [if_neg hbig] at h
  obtain ⟨x, hx, h⟩ := Option.bind_eq_some_iff.mp h
  obtain ⟨y, hy, h⟩ := Option.bind_eq_some_iff.mp h
  have g9 : IntKind.u32.wrap (4 + (m : Int)) = ((4 + m : Nat) : Int) := by rw [IntKind.wrap_u32]; omega
  obtain ⟨j, hj⟩ : ∃ j : Int, j = ((4 + m : Nat) : Int) := ⟨_, rfl⟩
  rw [← hj] at g9
  have e1 : ((4 : Int) ≤ j) = True := eq_true (by omega)
  have e2 : (j ≤ (a0.size : Int)) = True := eq_true (by omega)
  have e3 : ((0 : Int) ≤ j) = True := eq_true (by omega)
  have htx : a0.extract 4 j.toNat = textAt a0 m := by unfold textAt; congr 1; omega
  have hrx : a0.extract j.toNat a0.size = restAt a0 m := by unfold restAt; congr 1; omega
  have HTX := Aside0.mk htx; have HRX := Aside0.mk hrx
  clear htx hrx hj
  have hrs : 4 ≤ (restAt a0 m).size := by unfold restAt; rw [ByteArray.size_extract]; omega
  have HRS := Aside0.mk hrs; have HX := Aside0.mk hx; have HY := Aside0.mk hy; have HH := Aside0.mk h
  clear h4 hn0 hb hs hbig hrs hx hy h
  go_enter Tryz.func37, Tryz.ntmps37
  go_wp2_with fail
  refine (frame_get.calls 10 a0 m w HN.out).mono ?_
  rintro e w1 ⟨rfl, ⟨q1, rfl⟩⟩
  have HB1 := Aside0.mk (pw_below_drewN (Below.refl w.heap.size w) q1)
  generalize w.drewN q1 = w1 at *
  go_wp2_with fail
  go_quiet (fail)
  rw [HTX.out, HRX.out]
  generalize textAt a0 m = tx at *
  generalize restAt a0 m = rs at *
  have HB2 := Aside0.mk (pw_below_drewN HB1.out nq)
  go_wp2_with fail
  generalize w1.drewN nq = w2 at *
  refine (frame_get.calls 10 rs x w2 HX.out).mono ?_
  rintro e w3 ⟨rfl, ⟨q3, rfl⟩⟩
  have HB3 := Aside0.mk (pw_below_drewN HB2.out q3)
  generalize w2.drewN q3 = w3 at *
  go_wp2_with fail
  refine (frame_Sum.calls tx y w3 HY.out).mono ?_
  rintro e w4 ⟨rfl, hb4⟩
  have HB4 := Aside0.mk (HB3.out.trans (hb4.mono HB3.out.size))
  clear hb4
  by_cases hxy : x = y
  · have h := HH.out
    rw [if_pos hxy] at h
    have h := Option.some.inj h
    simp only [Prod.mk.injEq] at h
    obtain ⟨rfl, rfl, rfl, rfl⟩ := h
    have k1 : (x == y) = true := beq_iff_eq.mpr hxy
    have k2 : (x != y) = false := bne_eq_false_iff_eq.mpr hxy
    have k3 : ((4 : Int) ≤ (rs.size : Int)) = True := eq_true (by have := HRS.out; omega)
    have k4 : (4 ≤ rs.size) = True := eq_true HRS.out
    clear hxy
    go_wp2_with fail
    go_quiet (fail)
    go_wp2_with fail
    refine bodyPost_ret (results_list (rs := [.tmp 2, .tmp 3, .tmp 4, .tmp 5]) rfl (by simp) (.tmp (.tmp (.tmp (.tmp .nil))))) rfl ?_
    exact ⟨rfl, pw_below_drewN HB4.out _⟩
  · have h := HH.out
    rw [if_neg hxy] at h
    have h := Option.some.inj h
    simp only [Prod.mk.injEq] at h
    obtain ⟨rfl, rfl, rfl, rfl⟩ := h
    have k1 : (x == y) = false := beq_eq_false_iff_ne.mpr hxy
    have k2 : (x != y) = true := bne_iff_ne.mpr hxy
    clear hxy
    go_wp2_with fail
    refine bodyPost_ret (results_list (rs := [.tmp 2, .tmp 3, .tmp 4, .tmp 5]) rfl (by simp) (.tmp (.tmp (.tmp (.tmp .nil))))) rfl ?_
    exact ⟨rfl, HB4.out⟩
end Go.Proofs.YtojcbknclfamhaaGreatDoor.A
