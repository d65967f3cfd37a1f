/- One disk in a law: its calls, the script's steps. -/
import Derived.Test.YtephblclhojffaaAx0
import Derived.Test.YtephblclhojffaaHLives
namespace Go.Proofs.Ytephblclhojffaa.A
open Go.RowKit Go.Proofs.YtephblclhojffaaW.PrintWords Go.Proofs.YtephblclhojffaaW.PrintLast Go.Proofs.YtephblclhojffaaW.PrintMore
open Go.Maps
set_option linter.unusedVariables false
set_option linter.unusedSimpArgs false

section
variable {pl : Bool} {w0 w w' : World} {db : Nat} {M M' : DM} {n t : Nat}
theorem At.bel (h : At pl w0.heap.size w0 w db M) : Below w0.heap.size w0 w := h.elim fun _ ⟨_, _, _, _, _, _, _, _, h, _⟩ => h
theorem At.held (h : At pl w0.heap.size w0 w db M) (hI : Inv M n t) (hn : n < 1000000) (ht : t ≤ 1099511627776) :
    Calls Try.prog 21 #[.pointer (some ⟨db, 0, none⟩)] w fun e w' => e = .returned (.int .i64 (held M)) ∧ At pl w0.heap.size w0 w' db M ∧ Below w.heap.size w w' := by
  obtain ⟨own, dm, sm, chs, fb, sl, xs, hd, ho, hB, hs⟩ := h
  have hb := bd_of hd hI hn ht
  refine (Held.calls hd (Nat.le_of_lt hb.dl) hb.fits hb.dn).mono ?_
  rintro e w' ⟨rfl, hb'⟩
  exact ⟨rfl, At.below ⟨own, dm, sm, chs, fb, sl, xs, hd, ho, hB, hs⟩ hb', hb'⟩
theorem At.names (h : At pl w0.heap.size w0 w db M) (hl : M.dir.length ≤ 1048576) :
    Calls Try.prog 15 #[.pointer (some ⟨db, 0, none⟩)] w fun e w' => (∃ A c, e = .returned (.slice A (namesF M).length c) ∧ (namesF M).length ≤ c ∧ Kd.C Kd.string w' A (namesF M).length (namesF M)) ∧ At pl w0.heap.size w0 w' db M ∧ Below w.heap.size w w' := by
  obtain ⟨own, dm, sm, chs, fb, sl, xs, hd, ho, hB, hs⟩ := h
  refine (Names.calls hd hl).mono ?_
  rintro e w' ⟨v, rfl, hr, hb'⟩
  obtain ⟨A, c, rfl, hc, hrd⟩ := Kd.R_reads (Kd.R_of_own (ok := fun _ => True) (h1 := fun _ => rfl) hr (fun _ _ => trivial))
  exact ⟨⟨A, c, rfl, hc, hrd⟩, At.below ⟨own, dm, sm, chs, fb, sl, xs, hd, ho, hB, hs⟩ hb', hb'⟩
theorem At.read (h : At pl w0.heap.size w0 w db M) (hI : Fits M 1099511627776) (nm : ByteArray) (hs : nm.size ≤ maxLen) :
    Calls Try.prog 14 #[.pointer (some ⟨db, 0, none⟩), .string nm] w fun e w' => e = .returned (.tuple #[.string (bsS (readF M nm.data.toList).1), .int .i64 (readF M nm.data.toList).2]) ∧ w' = w := by
  obtain ⟨own, dm, sm, chs, fb, sl, xs, hd, ho, hB, hsz⟩ := h
  exact Read.calls hd nm hs hI
theorem At.names_le (h : At pl w0.heap.size w0 w db M) : ∀ p ∈ M.dir, p.1.length ≤ maxLen := by
  obtain ⟨own, dm, sm, chs, fb, sl, xs, hd, ho, hB, hsz⟩ := h
  exact hd.dirR.names_le
theorem At.rising (h : At pl w0.heap.size w0 w db M) : Rising M.dir := by
  obtain ⟨own, dm, sm, chs, fb, sl, xs, hd, ho, hB, hsz⟩ := h
  exact hd.dirR.rising
theorem At.keep {own : Nat → Prop} (hB : Below w0.heap.size w0 w) (ho : ∀ k, own k → w0.heap.size ≤ k) (hs : w0.heap.size ≤ w.heap.size) {A : Option Addr} {m : Nat} {l : List Int} (hk : Kd.C (Kd.int .i64) w0 A m l) : ∀ W, Only w W own → Kd.C (Kd.int .i64) W A m l :=
  fun W hW => Kd.C_below hk (hB.trans (hW.below ho hs))
theorem At.crash (h : At pl w0.heap.size w0 w db M) (hI : Inv M n t) (hn : n < 500000) (ht : t ≤ 1099511627776) (x : Int) (A : Option Addr) (c : Nat) (keep : List Int) (hk : Kd.C (Kd.int .i64) w0 A keep.length keep) (hc : keep.length ≤ c) :
    Calls Try.prog 13 #[.pointer (some ⟨db, 0, none⟩), .int .i64 x, .slice A keep.length c] w fun e w' => e = .returned (.tuple #[]) ∧ At pl w0.heap.size w0 w' db (crashF M x keep) := by
  obtain ⟨own, dm, sm, chs, fb, sl, xs, hd, ho, hB, hs⟩ := h
  refine (Crash.calls hd x A c keep (At.keep hB ho hs hk) hc hI.ok (by have h1 := hI.sdirL; have h2 := hI.cl; omega) (fun i => Nat.le_trans (hI.fits i) ht) hI.sure).mono ?_
  rintro e w' ⟨rfl, hW⟩
  exact ⟨rfl, At.went hW ho hB hs⟩
theorem At.does (h : At true w0.heap.size w0 w db M) (hI : Inv M n t) (hn : n < 500000) (ht : t ≤ 1099511627776) (o : S24) (Ak : Option Addr) (ck : Nat) (hk : Kd.C (Kd.int .i64) w0 Ak o.f4.length o.f4) (hck : o.f4.length ≤ ck) (hs1 : o.f1.size ≤ maxLen) (hs2 : o.f2.size ≤ 1099511627776) :
    Calls Try.prog 19 #[.pointer (some ⟨db, 0, none⟩), .agg #[.int .i64 o.f0, .string o.f1, .string o.f2, .int .i64 o.f3, .slice Ak o.f4.length ck]] w fun e w' => e = .returned (.int .i64 (stepF M o).2) ∧ At true w0.heap.size w0 w' db (stepF M o).1 := by
  obtain ⟨own, dm, sm, chs, fb, sl, xs, hd, ho, hB, hs⟩ := h
  refine (does.calls hd hI hn ht o Ak ck (At.keep hB ho hs hk) hck hs1 hs2).mono ?_
  rintro e w' ⟨rfl, hW⟩
  exact ⟨rfl, At.went hW ho hB hs⟩
theorem At.syncDir (h : At true w0.heap.size w0 w db M) (hI : Inv M n t) (hn : n < 500000) :
    Calls Try.prog 31 #[.pointer (some ⟨db, 0, none⟩)] w fun e w' => e = .returned (.int .i64 (syncDirF M).2) ∧ At true w0.heap.size w0 w' db (syncDirF M).1 := by
  obtain ⟨own, dm, sm, chs, fb, sl, xs, hd, ho, hB, hs⟩ := h
  refine (SyncDir.calls hd hI.c0 (by have := hI.c1; omega)).mono ?_
  rintro e w' ⟨rfl, hW⟩
  exact ⟨rfl, At.went hW ho hB hs⟩
theorem at_new (w0 w : World) (hB : Below w0.heap.size w0 w) (x : Int) : Calls Try.prog 17 #[.int .i64 x] w fun e w' => ∃ db, e = .returned (.pointer (some ⟨db, 0, none⟩)) ∧ At true w0.heap.size w0 w' db (newF x) := by
  refine (New.calls x w).mono ?_
  rintro e w' ⟨db, own, rfl, hD, hb, ho⟩
  exact ⟨db, rfl, At.mk hD (fun k hk => Nat.le_trans hB.size (ho k hk)) (hB.trans (hb.mono hB.size)) (Nat.le_trans hB.size hb.size)⟩
theorem At.below' (h : At pl w0.heap.size w0 w db M) (hb : Below w.heap.size w w') : At pl w0.heap.size w0 w' db M := At.below h hb
end

/-! ### the script -/
theorem sz24 (W : World) : (sizeOf 24).run Try.prog W = .ok 5 W := by kernel_rfl
theorem el36 : Try.prog.elem 36 = 24 := by kernel_rfl
theorem add05 (A : Option Addr) : A.map (·.add (0 * 5)) = A := by
  cases A with
  | none => rfl
  | some a => simp [Addr.add]
theorem cut36_run (A : Option Addr) (len cap n : Nat) (hn : n ≤ cap) (W : World) : (Instr.slice 36 (.slice A len cap) none (some (.int .i64 (n : Int))) none).run Try.prog W = .ok (.slice A n cap) W := by
  have hu : Try.prog.underlying 36 = some (.slice (Try.prog.elem 36)) := by rw [el36]; exact Try.underlying36
  have h := run_slice_h (P := Try.prog) W 36 A len cap hu .i64 (n : Int) (by omega) (by omega)
  rw [h, el36, sz24]
  simp only [Result.andThen, sliced, Int.toNat_natCast, add05, Nat.sub_zero, ite_self]
/-- The first 300. -/
def earlyF (l : List S24) : List S24 := l.take 300
theorem earlyF_len (l : List S24) : (earlyF l).length = min l.length 300 := by unfold earlyF; rw [List.length_take]; omega
theorem early.calls (w : World) (A : Option Addr) (c : Nat) (l : List S24) (hc : l.length ≤ c) : Calls Try.prog 16 #[.slice A l.length c] w fun e w' => e = .returned (.slice A (earlyF l).length c) ∧ w' = w := by
  obtain ⟨K, hK⟩ : ∃ K, K = (earlyF l).length := ⟨_, rfl⟩
  have hk := earlyF_len l
  have hmin : min (l.length : Int) 300 = (K : Int) := by omega
  have hcut := cut36_run A l.length c K (by omega)
  rw [← hK]
  clear hK hk hc
  go_enter Try.func16, Try.ntmps16
  go_wp2
  go_ret
  exact ⟨rfl, rfl⟩
theorem C_take {α : Type} {d : Kd α} {w : World} {A : Option Addr} {l : List α} (h : Kd.C d w A l.length l) (k : Nat) : Kd.C d w A (l.take k).length (l.take k) := by
  obtain ⟨h1, h2, h3⟩ := h
  refine ⟨rfl, by rw [List.length_take]; omega, fun hp => ?_⟩
  rw [List.length_take] at hp
  obtain ⟨ad, e, hc⟩ := h3 (by omega)
  refine ⟨ad, e, fun j p hj => hc j p ?_⟩
  rw [List.getElem?_take] at hj
  split at hj
  · exact hj
  · simp at hj
/-- A step of the script. -/
theorem op_at {w : World} {A : Option Addr} {l : List S24} (h : Kd.C k24 w A l.length l) (k : Nat) (hk : k < l.length) :
    ∃ ad A4 c4, A = some ad ∧ w.cell? (ad.add (k * 5)) = some (.int .i64 l[k].f0) ∧ w.cell? ⟨(ad.add (k * 5)).block, (ad.add (k * 5)).off + 1, none⟩ = some (.string l[k].f1) ∧ w.cell? ⟨(ad.add (k * 5)).block, (ad.add (k * 5)).off + 2, none⟩ = some (.string l[k].f2) ∧
      w.cell? ⟨(ad.add (k * 5)).block, (ad.add (k * 5)).off + 3, none⟩ = some (.int .i64 l[k].f3) ∧ w.cell? ⟨(ad.add (k * 5)).block, (ad.add (k * 5)).off + 4, none⟩ = some (.slice A4 l[k].f4.length c4) ∧ l[k].f4.length ≤ c4 ∧ (Kd.int .i64).C w A4 l[k].f4.length l[k].f4 := by
  obtain ⟨ad, A4, c4, hr⟩ := at_T24 h (k : Int) (by omega) (by omega)
  have e : rd_T24 l (k : Int) = l[k] := by simp [rd_T24, hk]
  rw [e, Int.toNat_natCast] at hr
  exact ⟨ad, A4, c4, hr⟩
/-- What is read of a script may be counted on. -/
structure OpOk (o : S24) : Prop where
  s1 : o.f1.size ≤ 1048576
  s2 : o.f2.size ≤ 1048576
  n3 : o.f3 ≤ 9223372036854775807
end Go.Proofs.Ytephblclhojffaa.A
