/- does: a step of the program's disk. -/
import Derived.Test.YtephblclhojffaaAx0
import Derived.Test.YtephblclhojffaaAx1
import Derived.Test.YtephblclhojffaaHInv
namespace Go.Proofs.Ytephblclhojffaa.A
open Go.RowKit Go.Proofs.YtephblclhojffaaW.PrintWords Go.Proofs.YtephblclhojffaaW.PrintLast Go.Proofs.YtephblclhojffaaW.PrintMore
open Go.Maps
set_option linter.unusedVariables false
set_option linter.unusedSimpArgs false

def kindF (n : Int) : Int := wrap64 (Int.tmod (IntKind.u64.wrap n) 10)
theorem kind_cases (n : Int) : kindF n = 0 ∨ kindF n = 1 ∨ kindF n = 2 ∨ kindF n = 3 ∨ kindF n = 4 ∨ kindF n = 5 ∨ kindF n = 6 ∨ kindF n = 7 ∨ kindF n = 8 ∨ kindF n = 9 := by
  have h0 : 0 ≤ IntKind.u64.wrap n := by rw [IntKind.wrap_u64]; omega
  have h1 : Int.tmod (IntKind.u64.wrap n) 10 = IntKind.u64.wrap n % 10 := Int.tmod_eq_emod_of_nonneg h0
  have h2 : 0 ≤ Int.tmod (IntKind.u64.wrap n) 10 ∧ Int.tmod (IntKind.u64.wrap n) 10 < 10 := by rw [h1]; omega
  have h3 : kindF n = Int.tmod (IntKind.u64.wrap n) 10 := by unfold kindF wrap64; omega
  omega
section
variable {pl : Bool} {w w' w2 w3 : World} {own own' own1 : Nat → Prop} {fb : List Nat} {db dm sm : Nat} {chs : Value} {sl xs : List Value} {M M' : DM}
theorem bd_of {n t : Nat} (h : DiskR pl w own db dm sm chs fb sl xs M) (hI : Inv M n t) (hn : n < 1000000) (ht : t ≤ 1099511627776) : Bd M :=
  ⟨hI.c0, by have := hI.c1; omega, hI.s0, hI.s1, by have := hI.dirL; omega, by have := hI.sdirL; omega, by have := hI.cl; omega, h.dirR.names_le, fun i => Nat.le_trans (hI.fits i) ht⟩
theorem wentF (h : DiskR pl w' own db dm sm chs fb sl xs M') (h2 : Only w w' (· = db)) : Went pl w w' own db M' := Went.err h rfl h2
/-- What a step makes. -/
def stepF (M : DM) (o : S24) : DM × Int := doesF M (kindF o.f0) o.f1.data.toList o.f2.data.toList o.f3 o.f4
theorem kind.calls (o : S24) (Ak : Option Addr) (ck : Nat) (hr : Kd.C (Kd.int .i64) w Ak o.f4.length o.f4) (hck : o.f4.length ≤ ck) :
    Calls Try.prog 32 #[.agg #[.int .i64 o.f0, .string o.f1, .string o.f2, .int .i64 o.f3, .slice Ak o.f4.length ck]] w fun e w' => e = .returned (.int .i64 (kindF o.f0)) ∧ Below w.heap.size w w' :=
  tithebarnlaw09_Op_kind.calls o.f0 o.f1 o.f2 o.f3 Ak ck o.f4 (kindF o.f0) w hr hck rfl
set_option maxHeartbeats 8000000 in
theorem does.calls (h : DiskR true w own db dm sm chs fb sl xs M) {n t : Nat} (hI : Inv M n t) (hn : n < 500000) (ht : t ≤ 1099511627776) (o : S24) (Ak : Option Addr) (ck : Nat) (HK : ∀ W, Only w W own → Kd.C (Kd.int .i64) W Ak o.f4.length o.f4) (hck : o.f4.length ≤ ck) (hs1 : o.f1.size ≤ maxLen) (hs2 : o.f2.size ≤ 1099511627776) :
    Calls Try.prog 19 #[.pointer (some ⟨db, 0, none⟩), .agg #[.int .i64 o.f0, .string o.f1, .string o.f2, .int .i64 o.f3, .slice Ak o.f4.length ck]] w fun e w' => e = .returned (.int .i64 (stepF M o).2) ∧ Went true w w' own db (stepF M o).1 := by
  have hbel : Below w.heap.size w (w.alloc (.cells #[.int .i64 o.f0, .string o.f1, .string o.f2, .int .i64 o.f3, .slice Ak o.f4.length ck] 24)) := (Below.refl w.heap.size w).alloc (Nat.le_refl _) _
  have h0 := h.below hbel
  have hbox := heap_alloc w (.cells #[.int .i64 o.f0, .string o.f1, .string o.f2, .int .i64 o.f3, .slice Ak o.f4.length ck] 24)
  have hsz0 : (w.alloc (.cells #[.int .i64 o.f0, .string o.f1, .string o.f2, .int .i64 o.f3, .slice Ak o.f4.length ck] 24)).heap.size = w.heap.size + 1 := by simp
  have hkind := kind.calls (w := w.alloc (.cells #[.int .i64 o.f0, .string o.f1, .string o.f2, .int .i64 o.f3, .slice Ak o.f4.length ck] 24)) o Ak ck (HK _ (Only.of_below hbel own)) hck
  have hs2m : o.f2.size ≤ maxLen := by unfold maxLen; omega
  have hB := bd_of h hI (by omega) ht
  have hlen : M.sdir.length + M.chg.length < 1048576 := by have h1 := hI.sdirL; have h2 := hI.cl; omega
  have b0 := cells_of hbox 0 rfl
  have b1 := cells_of hbox 1 rfl
  have b2 := cells_of hbox 2 rfl
  have b3 := cells_of hbox 3 rfl
  have b4 := cells_of hbox 4 rfl
  have HD := Aside0.mk h0; have HI := Aside0.mk hI; have HKK := Aside0.mk HK; have HBL := Aside0.mk hbel; have HBX := Aside0.mk hbox; have HSZ := Aside0.mk hsz0
  have HS1 := Aside0.mk hs1; have HS2 := Aside0.mk hs2; have HS2M := Aside0.mk hs2m; have HB := Aside0.mk hB; have HLN := Aside0.mk hlen; have HCK := Aside0.mk hck
  clear h0 hI HK hbel hbox hsz0 hs1 hs2 hs2m hB hlen hn ht h hck
  have hu24 := Try.underlying24
  unfold stepF
  rcases kind_cases o.f0 with e | e | e | e | e | e | e | e | e | e
  · rw [e] at hkind
    have E := Aside0.mk e
    clear e
    go_enter Try.func19, Try.ntmps19
    go_wp2_with fail
    refine hkind.mono ?_
    rintro e w1 ⟨rfl, hb1⟩
    have hd := HD.out.below hb1
    have hx := (hb1.block w.heap.size (by rw [HSZ.out]; omega)).trans HBX.out
    have c1 := cells_of hx 1 rfl
    have c2 := cells_of hx 2 rfl
    have c3 := cells_of hx 3 rfl
    have c4 := cells_of hx 4 rfl
    have hO1 := (Only.of_below HBL.out own).trans (Only.of_below hb1 own) (fun _ _ h => h)
    have HK1 : Aside0 (∀ W, Only w1 W own → Kd.C (Kd.int .i64) W Ak o.f4.length o.f4) := ⟨fun W hW => HKK.out W (hO1.trans hW (fun _ _ h => h))⟩
    have hB := HB.out; have hs1 := HS1.out; have hs2 := HS2.out; have hs2m := HS2M.out; have hI := HI.out; have hlen := HLN.out; have hck := HCK.out
    have hc := Create.calls hd o.f1 hs1 hB
    have HO1 := Aside0.mk hO1
    clear hd hx hb1 hO1 hB hs1 hs2 hs2m hI hlen hck
    go_wp2_with fail
    refine hc.mono ?_
    rintro e w2 ⟨rfl, hW⟩
    have HW := Aside0.mk (Went.after hW HO1.out (fun _ h => .inl h))
    clear hW hc
    go_wp2
    go_ret
    exact ⟨by rw [E.out]; rfl, by rw [E.out]; exact HW.out⟩
  · rw [e] at hkind
    have E := Aside0.mk e
    clear e
    go_enter Try.func19, Try.ntmps19
    go_wp2_with fail
    refine hkind.mono ?_
    rintro e w1 ⟨rfl, hb1⟩
    have hd := HD.out.below hb1
    have hx := (hb1.block w.heap.size (by rw [HSZ.out]; omega)).trans HBX.out
    have c1 := cells_of hx 1 rfl
    have c2 := cells_of hx 2 rfl
    have c3 := cells_of hx 3 rfl
    have c4 := cells_of hx 4 rfl
    have hO1 := (Only.of_below HBL.out own).trans (Only.of_below hb1 own) (fun _ _ h => h)
    have HK1 : Aside0 (∀ W, Only w1 W own → Kd.C (Kd.int .i64) W Ak o.f4.length o.f4) := ⟨fun W hW => HKK.out W (hO1.trans hW (fun _ _ h => h))⟩
    have hB := HB.out; have hs1 := HS1.out; have hs2 := HS2.out; have hs2m := HS2M.out; have hI := HI.out; have hlen := HLN.out; have hck := HCK.out
    have hc := Append.calls hd o.f1 o.f2 hs1 hs2 hB
    have HO1 := Aside0.mk hO1
    clear hd hx hb1 hO1 hB hs1 hs2 hs2m hI hlen hck
    go_wp2_with fail
    refine hc.mono ?_
    rintro e w2 ⟨rfl, hW⟩
    have HW := Aside0.mk (Went.after hW HO1.out (fun _ h => .inl h))
    clear hW hc
    go_wp2
    go_ret
    exact ⟨by rw [E.out]; rfl, by rw [E.out]; exact HW.out⟩
  · rw [e] at hkind
    have E := Aside0.mk e
    clear e
    go_enter Try.func19, Try.ntmps19
    go_wp2_with fail
    refine hkind.mono ?_
    rintro e w1 ⟨rfl, hb1⟩
    have hd := HD.out.below hb1
    have hx := (hb1.block w.heap.size (by rw [HSZ.out]; omega)).trans HBX.out
    have c1 := cells_of hx 1 rfl
    have c2 := cells_of hx 2 rfl
    have c3 := cells_of hx 3 rfl
    have c4 := cells_of hx 4 rfl
    have hO1 := (Only.of_below HBL.out own).trans (Only.of_below hb1 own) (fun _ _ h => h)
    have HK1 : Aside0 (∀ W, Only w1 W own → Kd.C (Kd.int .i64) W Ak o.f4.length o.f4) := ⟨fun W hW => HKK.out W (hO1.trans hW (fun _ _ h => h))⟩
    have hB := HB.out; have hs1 := HS1.out; have hs2 := HS2.out; have hs2m := HS2M.out; have hI := HI.out; have hlen := HLN.out; have hck := HCK.out
    have hc := Sync.calls hd o.f1 hs1 hB.c0 (by have := hB.c1; omega) hB.fits
    have HO1 := Aside0.mk hO1
    clear hd hx hb1 hO1 hB hs1 hs2 hs2m hI hlen hck
    go_wp2_with fail
    refine hc.mono ?_
    rintro e w2 ⟨rfl, hW⟩
    have HW := Aside0.mk (Went.after hW HO1.out (fun _ h => .inl h))
    clear hW hc
    go_wp2
    go_ret
    exact ⟨by rw [E.out]; rfl, by rw [E.out]; exact HW.out⟩
  · rw [e] at hkind
    have E := Aside0.mk e
    clear e
    go_enter Try.func19, Try.ntmps19
    go_wp2_with fail
    refine hkind.mono ?_
    rintro e w1 ⟨rfl, hb1⟩
    have hd := HD.out.below hb1
    have hx := (hb1.block w.heap.size (by rw [HSZ.out]; omega)).trans HBX.out
    have c1 := cells_of hx 1 rfl
    have c2 := cells_of hx 2 rfl
    have c3 := cells_of hx 3 rfl
    have c4 := cells_of hx 4 rfl
    have hO1 := (Only.of_below HBL.out own).trans (Only.of_below hb1 own) (fun _ _ h => h)
    have HK1 : Aside0 (∀ W, Only w1 W own → Kd.C (Kd.int .i64) W Ak o.f4.length o.f4) := ⟨fun W hW => HKK.out W (hO1.trans hW (fun _ _ h => h))⟩
    have hB := HB.out; have hs1 := HS1.out; have hs2 := HS2.out; have hs2m := HS2M.out; have hI := HI.out; have hlen := HLN.out; have hck := HCK.out
    have hc := Rename.calls hd o.f1 o.f2 hs1 hs2m hB
    have HO1 := Aside0.mk hO1
    clear hd hx hb1 hO1 hB hs1 hs2 hs2m hI hlen hck
    go_wp2_with fail
    refine hc.mono ?_
    rintro e w2 ⟨rfl, hW⟩
    have HW := Aside0.mk (Went.after hW HO1.out (fun _ h => .inl h))
    clear hW hc
    go_wp2
    go_ret
    exact ⟨by rw [E.out]; rfl, by rw [E.out]; exact HW.out⟩
  · rw [e] at hkind
    have E := Aside0.mk e
    clear e
    go_enter Try.func19, Try.ntmps19
    go_wp2_with fail
    refine hkind.mono ?_
    rintro e w1 ⟨rfl, hb1⟩
    have hd := HD.out.below hb1
    have hx := (hb1.block w.heap.size (by rw [HSZ.out]; omega)).trans HBX.out
    have c1 := cells_of hx 1 rfl
    have c2 := cells_of hx 2 rfl
    have c3 := cells_of hx 3 rfl
    have c4 := cells_of hx 4 rfl
    have hO1 := (Only.of_below HBL.out own).trans (Only.of_below hb1 own) (fun _ _ h => h)
    have HK1 : Aside0 (∀ W, Only w1 W own → Kd.C (Kd.int .i64) W Ak o.f4.length o.f4) := ⟨fun W hW => HKK.out W (hO1.trans hW (fun _ _ h => h))⟩
    have hB := HB.out; have hs1 := HS1.out; have hs2 := HS2.out; have hs2m := HS2M.out; have hI := HI.out; have hlen := HLN.out; have hck := HCK.out
    have hc := Remove.calls hd o.f1 hs1 hB
    have HO1 := Aside0.mk hO1
    clear hd hx hb1 hO1 hB hs1 hs2 hs2m hI hlen hck
    go_wp2_with fail
    refine hc.mono ?_
    rintro e w2 ⟨rfl, hW⟩
    have HW := Aside0.mk (Went.after hW HO1.out (fun _ h => .inl h))
    clear hW hc
    go_wp2
    go_ret
    exact ⟨by rw [E.out]; rfl, by rw [E.out]; exact HW.out⟩
  · rw [e] at hkind
    have E := Aside0.mk e
    clear e
    go_enter Try.func19, Try.ntmps19
    go_wp2_with fail
    refine hkind.mono ?_
    rintro e w1 ⟨rfl, hb1⟩
    have hd := HD.out.below hb1
    have hx := (hb1.block w.heap.size (by rw [HSZ.out]; omega)).trans HBX.out
    have c1 := cells_of hx 1 rfl
    have c2 := cells_of hx 2 rfl
    have c3 := cells_of hx 3 rfl
    have c4 := cells_of hx 4 rfl
    have hO1 := (Only.of_below HBL.out own).trans (Only.of_below hb1 own) (fun _ _ h => h)
    have HK1 : Aside0 (∀ W, Only w1 W own → Kd.C (Kd.int .i64) W Ak o.f4.length o.f4) := ⟨fun W hW => HKK.out W (hO1.trans hW (fun _ _ h => h))⟩
    have hB := HB.out; have hs1 := HS1.out; have hs2 := HS2.out; have hs2m := HS2M.out; have hI := HI.out; have hlen := HLN.out; have hck := HCK.out
    have hc := SyncDir.calls hd hB.c0 (by have := hB.c1; omega)
    have HO1 := Aside0.mk hO1
    clear hd hx hb1 hO1 hB hs1 hs2 hs2m hI hlen hck
    go_wp2_with fail
    refine hc.mono ?_
    rintro e w2 ⟨rfl, hW⟩
    have HW := Aside0.mk (Went.after hW HO1.out (fun _ h => .inl h))
    clear hW hc
    go_wp2
    go_ret
    exact ⟨by rw [E.out]; rfl, by rw [E.out]; exact HW.out⟩
  · rw [e] at hkind
    have E := Aside0.mk e
    clear e
    go_enter Try.func19, Try.ntmps19
    go_wp2_with fail
    refine hkind.mono ?_
    rintro e w1 ⟨rfl, hb1⟩
    have hd := HD.out.below hb1
    have hx := (hb1.block w.heap.size (by rw [HSZ.out]; omega)).trans HBX.out
    have c1 := cells_of hx 1 rfl
    have c2 := cells_of hx 2 rfl
    have c3 := cells_of hx 3 rfl
    have c4 := cells_of hx 4 rfl
    have hO1 := (Only.of_below HBL.out own).trans (Only.of_below hb1 own) (fun _ _ h => h)
    have HK1 : Aside0 (∀ W, Only w1 W own → Kd.C (Kd.int .i64) W Ak o.f4.length o.f4) := ⟨fun W hW => HKK.out W (hO1.trans hW (fun _ _ h => h))⟩
    have hB := HB.out; have hs1 := HS1.out; have hs2 := HS2.out; have hs2m := HS2M.out; have hI := HI.out; have hlen := HLN.out; have hck := HCK.out
    have hc := Space.calls hd o.f3
    have HO1 := Aside0.mk hO1
    clear hd hx hb1 hO1 hB hs1 hs2 hs2m hI hlen hck
    go_wp2_with fail
    refine hc.mono ?_
    rintro e w2 ⟨rfl, hW, hO⟩
    have HW := Aside0.mk (Went.after (wentF hW hO) HO1.out (fun _ h => .inl h))
    clear hW hc hO
    go_wp2
    go_ret
    exact ⟨by rw [E.out]; rfl, by rw [E.out]; exact HW.out⟩
  · rw [e] at hkind
    have E := Aside0.mk e
    clear e
    go_enter Try.func19, Try.ntmps19
    go_wp2_with fail
    refine hkind.mono ?_
    rintro e w1 ⟨rfl, hb1⟩
    have hd := HD.out.below hb1
    have hx := (hb1.block w.heap.size (by rw [HSZ.out]; omega)).trans HBX.out
    have c1 := cells_of hx 1 rfl
    have c2 := cells_of hx 2 rfl
    have c3 := cells_of hx 3 rfl
    have c4 := cells_of hx 4 rfl
    have hO1 := (Only.of_below HBL.out own).trans (Only.of_below hb1 own) (fun _ _ h => h)
    have HK1 : Aside0 (∀ W, Only w1 W own → Kd.C (Kd.int .i64) W Ak o.f4.length o.f4) := ⟨fun W hW => HKK.out W (hO1.trans hW (fun _ _ h => h))⟩
    have hB := HB.out; have hs1 := HS1.out; have hs2 := HS2.out; have hs2m := HS2M.out; have hI := HI.out; have hlen := HLN.out; have hck := HCK.out
    have hc := Stop.calls hd o.f3 hB.c0 (by have := hB.c1; omega)
    have HO1 := Aside0.mk hO1
    clear hd hx hb1 hO1 hB hs1 hs2 hs2m hI hlen hck
    go_wp2_with fail
    refine hc.mono ?_
    rintro e w2 ⟨rfl, hW, hO⟩
    have HW := Aside0.mk (Went.after (wentF hW hO) HO1.out (fun _ h => .inl h))
    clear hW hc hO
    go_wp2
    go_ret
    exact ⟨by rw [E.out]; rfl, by rw [E.out]; exact HW.out⟩
  · rw [e] at hkind
    have E := Aside0.mk e
    clear e
    go_enter Try.func19, Try.ntmps19
    go_wp2_with fail
    refine hkind.mono ?_
    rintro e w1 ⟨rfl, hb1⟩
    have hd := HD.out.below hb1
    have hx := (hb1.block w.heap.size (by rw [HSZ.out]; omega)).trans HBX.out
    have c1 := cells_of hx 1 rfl
    have c2 := cells_of hx 2 rfl
    have c3 := cells_of hx 3 rfl
    have c4 := cells_of hx 4 rfl
    have hO1 := (Only.of_below HBL.out own).trans (Only.of_below hb1 own) (fun _ _ h => h)
    have HK1 : Aside0 (∀ W, Only w1 W own → Kd.C (Kd.int .i64) W Ak o.f4.length o.f4) := ⟨fun W hW => HKK.out W (hO1.trans hW (fun _ _ h => h))⟩
    have hB := HB.out; have hs1 := HS1.out; have hs2 := HS2.out; have hs2m := HS2M.out; have hI := HI.out; have hlen := HLN.out; have hck := HCK.out
    have hc := Refuse.calls hd o.f3 hB.c0 (by have := hB.c1; omega)
    have HO1 := Aside0.mk hO1
    clear hd hx hb1 hO1 hB hs1 hs2 hs2m hI hlen hck
    go_wp2_with fail
    refine hc.mono ?_
    rintro e w2 ⟨rfl, hW, hO⟩
    have HW := Aside0.mk (Went.after (wentF hW hO) HO1.out (fun _ h => .inl h))
    clear hW hc hO
    go_wp2
    go_ret
    exact ⟨by rw [E.out]; rfl, by rw [E.out]; exact HW.out⟩
  · rw [e] at hkind
    have E := Aside0.mk e
    clear e
    go_enter Try.func19, Try.ntmps19
    go_wp2_with fail
    refine hkind.mono ?_
    rintro e w1 ⟨rfl, hb1⟩
    have hd := HD.out.below hb1
    have hx := (hb1.block w.heap.size (by rw [HSZ.out]; omega)).trans HBX.out
    have c1 := cells_of hx 1 rfl
    have c2 := cells_of hx 2 rfl
    have c3 := cells_of hx 3 rfl
    have c4 := cells_of hx 4 rfl
    have hO1 := (Only.of_below HBL.out own).trans (Only.of_below hb1 own) (fun _ _ h => h)
    have HK1 : Aside0 (∀ W, Only w1 W own → Kd.C (Kd.int .i64) W Ak o.f4.length o.f4) := ⟨fun W hW => HKK.out W (hO1.trans hW (fun _ _ h => h))⟩
    have hB := HB.out; have hs1 := HS1.out; have hs2 := HS2.out; have hs2m := HS2M.out; have hI := HI.out; have hlen := HLN.out; have hck := HCK.out
    have hc := Crash.calls hd o.f3 Ak ck o.f4 (fun W hW => HK1.out W hW) hck hI.ok hlen hB.fits hI.sure
    have HO1 := Aside0.mk hO1
    clear hd hx hb1 hO1 hB hs1 hs2 hs2m hI hlen hck
    go_wp2_with fail
    refine hc.mono ?_
    rintro e w2 ⟨rfl, hW⟩
    have HW := Aside0.mk (Went.after hW HO1.out (fun _ h => .inl h))
    clear hW hc
    go_wp2
    go_ret
    exact ⟨by rw [E.out]; rfl, by rw [E.out]; exact HW.out⟩
end
end Go.Proofs.Ytephblclhojffaa.A
