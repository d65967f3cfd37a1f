/- lives: bytes that are half sure. -/
import Derived.Test.YtephblclhojffaaAx0
import Derived.Test.YtephblclhojffaaHDoes
namespace Go.Proofs.Ytephblclhojffaa.A
open Go.RowKit Go.Proofs.YtephblclhojffaaW.PrintWords Go.Proofs.YtephblclhojffaaW.PrintLast Go.Proofs.YtephblclhojffaaW.PrintMore
open Go.Maps
set_option linter.unusedVariables false
set_option linter.unusedSimpArgs false

/-- A disk of blocks from base on; below base all is as it was. -/
def At (pl : Bool) (base : Nat) (w0 w : World) (db : Nat) (M : DM) : Prop := ∃ own dm sm chs fb sl xs, DiskR pl w own db dm sm chs fb sl xs M ∧ (∀ k, own k → base ≤ k) ∧ Below base w0 w ∧ base ≤ w.heap.size
section
variable {pl : Bool} {w0 w w' w2 w3 : World} {own own' own1 : Nat → Prop} {fb : List Nat} {base db dm sm : Nat} {chs : Value} {sl xs : List Value} {M M' : DM}
theorem At.mk (h : IsDisk pl w own db M) (ho : ∀ k, own k → base ≤ k) (hB : Below base w0 w) (hs : base ≤ w.heap.size) : At pl base w0 w db M := by
  obtain ⟨dm, sm, chs, fb, sl, xs, h⟩ := h
  exact ⟨own, dm, sm, chs, fb, sl, xs, h, ho, hB, hs⟩
theorem At.went (hW : Went pl w w' own db M') (ho : ∀ k, own k → base ≤ k) (hB : Below base w0 w) (hs : base ≤ w.heap.size) : At pl base w0 w' db M' := by
  obtain ⟨own', h, h1, h2⟩ := hW
  exact At.mk h (fun k hk => (h1 k hk).elim (ho k) (fun h => Nat.le_trans hs h)) (hB.trans (h2.below ho hs)) (Nat.le_trans hs h2.size)
theorem At.below (h : At pl base w0 w db M) (hb : Below w.heap.size w w') : At pl base w0 w' db M := by
  obtain ⟨own, dm, sm, chs, fb, sl, xs, h, ho, hB, hs⟩ := h
  exact ⟨own, dm, sm, chs, fb, sl, xs, h.below hb, ho, hB.trans (hb.mono hs), Nat.le_trans hs hb.size⟩
end

def lf : Bs := [102]
def L0 : DM := newF 100
def L1 : DM := (createF L0 lf).1
def L2 : DM := (appendF L1 lf [97, 98]).1
def L3 : DM := (syncF L2 lf).1
def L4 : DM := (appendF L3 lf [99, 100]).1
def L5 : DM := (syncDirF L4).1
def L6 : DM := crashF L5 0 [1]
theorem i0 : Inv L0 0 0 := inv_new 100 (by omega)
theorem i1 : Inv L1 1 0 := inv_create i0 lf
theorem i2 : Inv L2 2 2 := inv_append i1 lf _
theorem i3 : Inv L3 3 2 := inv_sync i2 lf
theorem i4 : Inv L4 4 4 := inv_append i3 lf _
theorem i5 : Inv L5 5 4 := inv_syncDir i4
theorem i6 : Inv L6 5 4 := i5.crash 0 [1]
theorem q1 : (createF L0 lf).2 = 0 := by decide +kernel
theorem q2 : (appendF L1 lf [97, 98]).2 = 0 := by decide +kernel
theorem q3 : (syncF L2 lf).2 = 0 := by decide +kernel
theorem q4 : (appendF L3 lf [99, 100]).2 = 0 := by decide +kernel
theorem q5 : (syncDirF L4).2 = 0 := by decide +kernel
theorem q6 : readF L6 lf = ([97, 98, 99], 0) := by decide +kernel
theorem q7 : held L6 = 3 := by decide +kernel
theorem q8 : L6.dir.length = 1 := by decide +kernel
theorem one_int {W : World} {b : Nat} {n : Int} (hb : W.heap[b]? = some (.cells #[.int .i64 n] 3 (0, 0))) : Kd.C (Kd.int .i64) W (some ⟨b, 0, none⟩) 1 [n] := by
  refine ⟨rfl, by simp, fun _ => ⟨_, rfl, fun j p hj => ?_⟩⟩
  cases j with
  | zero =>
    have hp : n = p := by simpa using hj
    subst hp
    exact ⟨_, rfl, rfl, fun i u hu => by
      cases i with
      | zero =>
        have : Value.int .i64 n = u := by simpa using hu
        subst this
        exact (blk_cell hb 0).trans rfl
      | succ i => simp at hu⟩
  | succ j => simp at hj
set_option maxRecDepth 100000 in
set_option maxHeartbeats 8000000 in
theorem lives.calls (w : World) : Calls Try.prog 11 #[] w fun e w' => e = .returned (.bool true) ∧ Below w.heap.size w w' := by
  go_enter Try.func11, Try.ntmps11
  go_wp2_with fail
  refine (New.calls 100 w).mono ?_
  rintro e w1 ⟨db, own, rfl, hD, hB, hO⟩
  have A1 := Aside0.mk (At.mk (base := w.heap.size) (w0 := w) (show IsDisk true w1 own db L0 from hD) hO hB hB.size)
  clear hD hB hO
  obtain ⟨own1, dm1, sm1, chs1, fb1, sl1, xs1, hd, ho, hB, hs⟩ := A1.out
  have hbd := bd_of hd i0 (by omega) (by omega)
  have hc := Create.calls hd ⟨#[102]⟩ (by decide) hbd
  rw [(show (createF L0 (⟨#[102]⟩ : ByteArray).data.toList).2 = 0 from q1)] at hc
  have HA := Aside0.mk (fun (w' : World) M' (h : Went true w1 w' own1 db M') => At.went (base := w.heap.size) (w0 := w) h ho hB hs)
  clear hd ho hB hs hbd
  go_wp2_with fail
  refine hc.mono ?_
  rintro e w2 ⟨rfl, hW⟩
  have A2 : Aside0 (At true w.heap.size w w2 db L1) := ⟨HA.out _ _ hW⟩
  clear hW hc HA
  obtain ⟨own2, dm2, sm2, chs2, fb2, sl2, xs2, hd, ho, hB, hs⟩ := A2.out
  have hbd := bd_of hd i1 (by omega) (by omega)
  have hc := Append.calls hd ⟨#[102]⟩ ⟨#[97, 98]⟩ (by decide) (by decide) hbd
  rw [(show (appendF L1 (⟨#[102]⟩ : ByteArray).data.toList (⟨#[97, 98]⟩ : ByteArray).data.toList).2 = 0 from q2)] at hc
  have HA := Aside0.mk (fun (w' : World) M' (h : Went true w2 w' own2 db M') => At.went (base := w.heap.size) (w0 := w) h ho hB hs)
  clear hd ho hB hs hbd
  go_wp2_with fail
  refine hc.mono ?_
  rintro e w3 ⟨rfl, hW⟩
  have A3 : Aside0 (At true w.heap.size w w3 db L2) := ⟨HA.out _ _ hW⟩
  clear hW hc HA
  obtain ⟨own3, dm3, sm3, chs3, fb3, sl3, xs3, hd, ho, hB, hs⟩ := A3.out
  have hbd := bd_of hd i2 (by omega) (by omega)
  have hc := Sync.calls hd ⟨#[102]⟩ (by decide) hbd.c0 (by have := hbd.c1; omega) hbd.fits
  rw [(show (syncF L2 (⟨#[102]⟩ : ByteArray).data.toList).2 = 0 from q3)] at hc
  have HA := Aside0.mk (fun (w' : World) M' (h : Went true w3 w' own3 db M') => At.went (base := w.heap.size) (w0 := w) h ho hB hs)
  clear hd ho hB hs hbd
  go_wp2_with fail
  refine hc.mono ?_
  rintro e w4 ⟨rfl, hW⟩
  have A4 : Aside0 (At true w.heap.size w w4 db L3) := ⟨HA.out _ _ hW⟩
  clear hW hc HA
  obtain ⟨own4, dm4, sm4, chs4, fb4, sl4, xs4, hd, ho, hB, hs⟩ := A4.out
  have hbd := bd_of hd i3 (by omega) (by omega)
  have hc := Append.calls hd ⟨#[102]⟩ ⟨#[99, 100]⟩ (by decide) (by decide) hbd
  rw [(show (appendF L3 (⟨#[102]⟩ : ByteArray).data.toList (⟨#[99, 100]⟩ : ByteArray).data.toList).2 = 0 from q4)] at hc
  have HA := Aside0.mk (fun (w' : World) M' (h : Went true w4 w' own4 db M') => At.went (base := w.heap.size) (w0 := w) h ho hB hs)
  clear hd ho hB hs hbd
  go_wp2_with fail
  refine hc.mono ?_
  rintro e w5 ⟨rfl, hW⟩
  have A5 : Aside0 (At true w.heap.size w w5 db L4) := ⟨HA.out _ _ hW⟩
  clear hW hc HA
  obtain ⟨own5, dm5, sm5, chs5, fb5, sl5, xs5, hd, ho, hB, hs⟩ := A5.out
  have hbd := bd_of hd i4 (by omega) (by omega)
  have hc := SyncDir.calls hd hbd.c0 (by have := hbd.c1; omega)
  rw [(show (syncDirF L4).2 = 0 from q5)] at hc
  have HA := Aside0.mk (fun (w' : World) M' (h : Went true w5 w' own5 db M') => At.went (base := w.heap.size) (w0 := w) h ho hB hs)
  clear hd ho hB hs hbd
  go_wp2_with fail
  refine hc.mono ?_
  rintro e w6 ⟨rfl, hW⟩
  have A6 : Aside0 (At true w.heap.size w w6 db L5) := ⟨HA.out _ _ hW⟩
  clear hW hc HA
  go_wp2_with fail
  obtain ⟨own6, dm6, sm6, chs6, fb6, sl6, xs6, hd, ho, hB, hs⟩ := A6.out
  have hbk := heap_alloc w6 (.cells #[.int .i64 1] 3)
  have hbl : Below w6.heap.size w6 (w6.alloc (.cells #[.int .i64 1] 3)) := (Below.refl w6.heap.size w6).alloc (Nat.le_refl _) _
  have hsz : (w6.alloc (.cells #[.int .i64 1] 3)).heap.size = w6.heap.size + 1 := by simp
  have hc := Crash.calls (hd.below hbl) 0 (some ⟨w6.heap.size, 0, none⟩) 1 [1] (fun W hW => one_int ((hW.block _ (by omega) (fun e => by have := hd.lt _ e; omega)).trans hbk)) (Nat.le_refl _) i5.ok (by decide +kernel) (fun i => Nat.le_trans (i5.fits i) (by omega)) i5.sure
  have HA := Aside0.mk (fun (w' : World) (h : Went true (w6.alloc (.cells #[.int .i64 1] 3)) w' own6 db L6) => At.went (base := w.heap.size) (w0 := w) h ho (hB.trans (hbl.mono hs)) (by omega))
  clear hd ho hB hs hbk hbl hsz
  refine hc.mono ?_
  rintro e w7 ⟨rfl, hW⟩
  have A7 : Aside0 (At true w.heap.size w w7 db L6) := ⟨HA.out _ hW⟩
  clear hW hc HA
  obtain ⟨own7, dm7, sm7, chs7, fb7, sl7, xs7, hd, ho, hB, hs⟩ := A7.out
  have hc := Read.calls hd ⟨#[102]⟩ (by decide) (fun i => Nat.le_trans (i6.fits i) (by omega))
  rw [(show readF L6 (⟨#[102]⟩ : ByteArray).data.toList = ([97, 98, 99], 0) from q6)] at hc
  have hstr : (bsS [97, 98, 99]).toList = [97, 98, 99] := by rw [ByteArray.toList_eq]; rfl
  generalize bsS [97, 98, 99] = sx at hc hstr
  have hh := Held.calls hd (by rw [q8]; omega) (fun i => Nat.le_trans (i6.fits i) (by omega)) hd.dirR.names_le
  rw [q7] at hh
  have HN : Aside0 (∀ w8, Below w7.heap.size w7 w8 → Calls Try.prog 15 #[.pointer (some ⟨db, 0, none⟩)] w8 fun e w' => ∃ A c, e = .returned (.slice A 1 c) ∧ Below w8.heap.size w8 w') := ⟨fun w8 hb8 => by
    refine (Names.calls (hd.below hb8) (by rw [q8]; omega)).mono ?_
    rintro e w9 ⟨v, rfl, hr, hb⟩
    obtain ⟨A, c, rfl⟩ := own_slice hr
    refine ⟨A, c, ?_, hb⟩
    have : (namesF L6).length = 1 := by unfold namesF; rw [List.length_map]; exact q8
    rw [this]⟩
  clear hd ho hB hs
  go_wp2_with fail
  refine hc.mono ?_
  rintro e w8 ⟨rfl, rfl⟩
  go_wp2_with fail
  refine hh.mono ?_
  rintro e w9 ⟨rfl, hb9⟩
  have HB9 := Aside0.mk hb9
  clear hb9 hh hc
  go_wp2_with fail
  refine (HN.out w9 HB9.out).mono ?_
  rintro e w10 ⟨A, c, rfl, hb10⟩
  have HB10 := Aside0.mk hb10
  clear hb10
  go_wp2
  go_ret
  obtain ⟨_, _, _, _, _, _, _, _, _, hB, hs⟩ := A7.out
  exact ⟨rfl, (hB.trans (HB9.out.mono hs)).trans (HB10.out.mono (Nat.le_trans hs HB9.out.size))⟩
end Go.Proofs.Ytephblclhojffaa.A
