/- deeds.reader: truth, fine, value. -/
import Derived.Test.YtojcbknclfamhaaGreatDoorKpAx0
import Derived.Test.YtojcbknclfamhaaGreatDoorKpAx28
import Derived.Test.YtojcbknclfamhaaGreatDoorKpAx29
namespace Go.Proofs.YtojcbknclfamhaaGreatDoor.A
open Go.RowKit Go.Proofs.YtojcbknclfamhaaGreatDoorW.PrintWords Go.Proofs.YtojcbknclfamhaaGreatDoorW.PrintLast Go.Proofs.YtojcbknclfamhaaGreatDoorW.PrintMore
set_option linter.unusedVariables false
set_option linter.unusedSimpArgs false
def Keep2 (w w' : World) (a b : Nat) : Prop := w.heap.size ≤ w'.heap.size ∧ ∀ i, i < w.heap.size → i ≠ a → i ≠ b → w'.heap[i]? = w.heap[i]?
theorem Keep2.refl (w : World) (a b : Nat) : Keep2 w w a b := ⟨Nat.le_refl _, fun i _ _ _ => rfl⟩
theorem Keep2.trans {w w1 w2 : World} {a b : Nat} (h : Keep2 w w1 a b) (h2 : Keep2 w1 w2 a b) : Keep2 w w2 a b := ⟨Nat.le_trans h.1 h2.1, fun i hi ha hb => (h2.2 i (Nat.lt_of_lt_of_le hi h.1) ha hb).trans (h.2 i hi ha hb)⟩
theorem Keep2.but {w w' : World} {a b : Nat} (h : KeepBut w w' b none) : Keep2 w w' a b := ⟨h.1, fun i hi _ hb => h.2 i hi hb (by simp)⟩
theorem Keep2.below {w w' : World} {a b : Nat} (h : Below w.heap.size w w') : Keep2 w w' a b := ⟨h.size, fun i hi _ _ => h.block i hi⟩
theorem Keep2.set {w w' : World} {a b : Nat} (h : Keep2 w w' a b) (i : Nat) (v : Value) : Keep2 w (w'.setCell ⟨a, i, none⟩ v) a b :=
  ⟨Nat.le_trans h.1 (by simp [World.setCell]), fun k hk ha hb => (Below.heap_setCell w' ⟨a, i, none⟩ v k (fun e => ha e)).trans (h.2 k hk ha hb)⟩
def IsRdr (w0 W : World) (rb g : Nat) (s : ByteArray) (e : Int) (odd : Bool) : Prop :=
  W.heap[rb]? = some (.cells #[.pointer (some ⟨g, 0, none⟩), .bool odd] 81 (0, 0)) ∧ w0.heap.size ≤ rb ∧ rb ≠ g ∧ IsS119 w0 W g s e
theorem IsRdr.below {w0 W W1 : World} {rb g : Nat} {s : ByteArray} {e : Int} {odd : Bool} (h : IsRdr w0 W rb g s e odd) (hb : Below W.heap.size W W1) : IsRdr w0 W1 rb g s e odd :=
  ⟨(hb.block rb (Array.getElem?_eq_some_iff.1 h.1).1).trans h.1, h.2.1, h.2.2.1, h.2.2.2.below hb⟩
def RdrStep (w0 w w' : World) (rb g : Nat) (s : ByteArray) (e : Int) (odd : Bool) : Prop := IsRdr w0 w' rb g s e odd ∧ Below w0.heap.size w0 w' ∧ Keep2 w w' rb g
def truthF (s : ByteArray) (e : Int) (odd : Bool) : Option (Bool × ByteArray × Int × Bool) := (tally_Cursor_Byte.f s e).bind fun r => some (r.1 == 1, r.2.1, r.2.2, odd || decide (1 < r.1))
set_option maxHeartbeats 4000000 in
set_option maxRecDepth 100000 in
theorem truth.calls (rb g : Nat) (s : ByteArray) (e : Int) (odd : Bool) (t : Bool) (s' : ByteArray) (e' : Int) (odd' : Bool) (w0 w : World) (hI : IsRdr w0 w rb g s e odd) (hB : Below w0.heap.size w0 w) (h : truthF s e odd = some (t, s', e', odd')) :
    Calls Tryz.prog 39 #[.pointer (some ⟨rb, 0, none⟩)] w fun x w' => x = .returned (.bool t) ∧ RdrStep w0 w w' rb g s' e' odd' := by
  unfold truthF at h
  obtain ⟨⟨b, s1, e1⟩, hbf, h⟩ := Option.bind_eq_some_iff.mp h
  have h := Option.some.inj h
  simp only [Prod.mk.injEq] at h
  obtain ⟨rfl, rfl, rfl, rfl⟩ := h
  obtain ⟨hr, hge, hne, hS⟩ := hI
  have q0 := (blk_cell hr 0).trans rfl
  have q1 := (blk_cell hr 1).trans rfl
  have HS := Aside0.mk hS; have HB := Aside0.mk hB; have HF := Aside0.mk hbf; have HR := Aside0.mk hr; have HG := Aside0.mk (And.intro hge hne)
  have hu := Tryz.underlying81
  clear hS hB hbf hr hge hne
  go_enter Tryz.func39, Tryz.ntmps39
  go_wp2_with fail
  refine (tally_Cursor_Byte.calls g s e b s1 e1 w0 w HS.out HB.out HF.out).mono ?_
  rintro x w1 ⟨rfl, hS1, hB1, hK1⟩
  have hlt := (Array.getElem?_eq_some_iff.1 HR.out).1
  have hr1 := (hK1.2 rb hlt HG.out.2 (by simp)).trans HR.out
  clear q0 q1 HS HB HF
  have q1 := (blk_cell hr1 1).trans rfl
  have u1 := blk_frozen hr1 1
  have HS1 := Aside0.mk hS1; have HB1 := Aside0.mk hB1; have HK1 := Aside0.mk hK1; have HR1 := Aside0.mk hr1
  clear hS1 hB1 hK1 hr1 hlt
  have hfin : ∀ o : Bool, RdrStep w0 w (w1.setCell ⟨rb, 1, none⟩ (.bool o)) rb g s1 e1 o := fun o =>
    ⟨⟨blk_set HR1.out 1 (.bool o), HG.out.1, HG.out.2, ⟨blk_far (p := ⟨rb, 1, none⟩) HS1.out.1 (fun e => HG.out.2 e.symm) _, HS1.out.2⟩⟩, HB1.out.setCell HG.out.1 _, (Keep2.but HK1.out).set 1 _⟩
  have HFIN := Aside0.mk hfin
  clear hfin
  cases odd with
  | true =>
    go_wp2_with fail
    go_ret
    exact ⟨rfl, HFIN.out true⟩
  | false =>
    cases hb : decide (1 < b) with
    | true =>
      go_wp2_with fail
      go_ret
      exact ⟨rfl, by rw [hb]; exact HFIN.out true⟩
    | false =>
      go_wp2_with fail
      go_ret
      exact ⟨rfl, by rw [hb]; exact HFIN.out false⟩
set_option maxHeartbeats 4000000 in
set_option maxRecDepth 100000 in
theorem fine.calls (rb g : Nat) (s : ByteArray) (e : Int) (odd : Bool) (w0 w : World) (hI : IsRdr w0 w rb g s e odd) (hB : Below w0.heap.size w0 w) :
    Calls Tryz.prog 40 #[.pointer (some ⟨rb, 0, none⟩)] w fun x w' => x = .returned (.bool (!odd && (e == 0))) ∧ RdrStep w0 w w' rb g s e odd := by
  obtain ⟨hr, hge, hne, hS⟩ := hI
  have q0 := (blk_cell hr 0).trans rfl
  have q1 := (blk_cell hr 1).trans rfl
  have HS := Aside0.mk hS; have HB := Aside0.mk hB; have HR := Aside0.mk hr; have HG := Aside0.mk (And.intro hge hne)
  have hu := Tryz.underlying81
  have hlt := (Array.getElem?_eq_some_iff.1 hr).1
  have HLT := Aside0.mk hlt
  clear hS hB hr hge hne hlt
  cases odd with
  | true =>
    go_enter Tryz.func40, Tryz.ntmps40
    go_wp2_with fail
    go_ret
    exact ⟨rfl, ⟨HR.out, HG.out.1, HG.out.2, HS.out⟩, HB.out, Keep2.refl _ _ _⟩
  | false =>
    go_enter Tryz.func40, Tryz.ntmps40
    go_wp2_with fail
    refine (tally_Cursor_Err.calls g s e e s e w0 w HS.out HB.out rfl).mono ?_
    rintro x w1 ⟨rfl, hS1, hB1, hK1⟩
    have HS1 := Aside0.mk hS1; have HB1 := Aside0.mk hB1; have HK1 := Aside0.mk hK1
    have HR1 := Aside0.mk ((hK1.2 rb HLT.out HG.out.2 (by simp)).trans HR.out)
    clear hS1 hB1 hK1
    go_wp2_with fail
    go_ret
    exact ⟨by cases (e == 0) <;> rfl, ⟨HR1.out, HG.out.1, HG.out.2, HS1.out⟩, HB1.out, Keep2.but HK1.out⟩
theorem RdrStep.far {w0 w W : World} {rb g : Nat} {s : ByteArray} {e : Int} {odd : Bool} (h : RdrStep w0 w W rb g s e odd) {p : Addr} (h1 : p.block ≠ rb) (h2 : p.block ≠ g) (h3 : w.heap.size ≤ p.block) (h4 : w0.heap.size ≤ p.block) (u : Value) : RdrStep w0 w (W.setCell p u) rb g s e odd :=
  ⟨⟨blk_far h.1.1 (fun e => h1 e.symm) u, h.1.2.1, h.1.2.2.1, ⟨blk_far h.1.2.2.2.1 (fun e => h2 e.symm) u, h.1.2.2.2.2⟩⟩, h.2.1.setCell h4 u,
    ⟨Nat.le_trans h.2.2.1 (by simp [World.setCell]), fun i hi ha hb => (Below.heap_setCell W p u i (fun e => by omega)).trans (h.2.2.2 i hi ha hb)⟩⟩
theorem RdrStep.cur {w0 w W W1 : World} {rb g : Nat} {s s1 : ByteArray} {e e1 : Int} {odd : Bool} (h : RdrStep w0 w W rb g s e odd) (hS : IsS119 w0 W1 g s1 e1) (hB : Below w0.heap.size w0 W1) (hK : KeepBut W W1 g none) : RdrStep w0 w W1 rb g s1 e1 odd :=
  ⟨⟨(hK.2 rb (Array.getElem?_eq_some_iff.1 h.1.1).1 h.1.2.2.1 (by simp)).trans h.1.1, h.1.2.1, h.1.2.2.1, hS⟩, hB, h.2.2.trans (Keep2.but hK)⟩
theorem RdrStep.below {w0 w W W1 : World} {rb g : Nat} {s : ByteArray} {e : Int} {odd : Bool} (h : RdrStep w0 w W rb g s e odd) (hb : Below W.heap.size W W1) : RdrStep w0 w W1 rb g s e odd :=
  ⟨h.1.below hb, h.2.1.trans (hb.mono h.2.1.size), h.2.2.trans (Keep2.below hb)⟩
theorem RdrStep.then {w0 w W W1 : World} {rb g : Nat} {s s1 : ByteArray} {e e1 : Int} {odd odd1 : Bool} (h : RdrStep w0 w W rb g s e odd) (h1 : RdrStep w0 W W1 rb g s1 e1 odd1) : RdrStep w0 w W1 rb g s1 e1 odd1 :=
  ⟨h1.1, h1.2.1, h.2.2.trans h1.2.2⟩
def bodyV (s : ByteArray) (e : Int) (odd : Bool) (c : S44) : Option (S46 × ByteArray × Int × Bool) :=
  if odd = true then some (⟨false, 0, ⟨#[]⟩⟩, s, e, odd) else
  if c.f0 = 1 then (tally_Cursor_Int.f s e).bind fun r => some (⟨false, r.1, ⟨#[]⟩⟩, r.2.1, r.2.2, false)
  else (tally_Cursor_Text.f 10 s e 64).bind fun r => some (⟨false, 0, r.1⟩, r.2.1, r.2.2, false)
def valueF (s : ByteArray) (e : Int) (odd : Bool) (c : S44) : Option (S46 × ByteArray × Int × Bool) :=
  if c.f1 = true then (truthF s e odd).bind fun r => if r.1 = true then some (⟨true, 0, ⟨#[]⟩⟩, r.2.1, r.2.2.1, r.2.2.2) else bodyV r.2.1 r.2.2.1 r.2.2.2 c
  else bodyV s e odd c
set_option maxHeartbeats 8000000 in
set_option maxRecDepth 100000 in
theorem value.calls (rb g : Nat) (s : ByteArray) (e : Int) (odd : Bool) (c : S44) (v : S46) (s' : ByteArray) (e' : Int) (odd' : Bool) (w0 w : World) (hI : IsRdr w0 w rb g s e odd) (hB : Below w0.heap.size w0 w) (h : valueF s e odd c = some (v, s', e', odd')) :
    Calls Tryz.prog 41 #[.pointer (some ⟨rb, 0, none⟩), .agg #[.int .i64 c.f0, .bool c.f1]] w fun x w' => x = .returned (.agg #[.bool v.f0, .int .i64 v.f1, .string v.f2]) ∧ RdrStep w0 w w' rb g s' e' odd' := by
  have hu := Tryz.underlying81
  have hu2 := Tryz.underlying44
  have hu3 := Tryz.underlying46
  have hltr := (Array.getElem?_eq_some_iff.1 hI.1).1
  have hltg := (Array.getElem?_eq_some_iff.1 hI.2.2.2.1).1
  have H0 := Aside0.mk h; have HS0 := Aside0.mk (show RdrStep w0 w w rb g s e odd from ⟨hI, hB, Keep2.refl _ _ _⟩)
  have hsz := hB.size
  obtain ⟨c0, c1⟩ := c
  have k1 := blk_new w (.cells #[.int .i64 c0, .bool c1] 44)
  have b1 := below_alloc (Below.refl _ w) (.cells #[.int .i64 c0, .bool c1] 44)
  have s1 : (w.alloc (.cells #[.int .i64 c0, .bool c1] 44)).heap.size = w.heap.size + 1 := by simp
  have k2 := blk_new (w.alloc (.cells #[.int .i64 c0, .bool c1] 44)) (.cells #[.bool false, .int .i64 0, .string ⟨#[]⟩] 46)
  have b2 := below_alloc (Below.refl _ (w.alloc (.cells #[.int .i64 c0, .bool c1] 44))) (.cells #[.bool false, .int .i64 0, .string ⟨#[]⟩] 46)
  have k1' := (b2.block _ (by rw [s1]; omega)).trans k1
  rw [s1] at k2
  have KC := Aside0.mk k1'; have KV := Aside0.mk k2
  have HS := Aside0.mk ((HS0.out.below b1).below b2)
  have NB : Aside0 (w.heap.size + 1 ≠ rb ∧ w.heap.size + 1 ≠ g ∧ w.heap.size ≤ w.heap.size + 1 ∧ w0.heap.size ≤ w.heap.size + 1) := ⟨by omega, by omega, by omega, by omega⟩
  have NC : Aside0 (w.heap.size ≠ rb ∧ w.heap.size ≠ g) := ⟨by omega, by omega⟩
  clear hI hB h hltr hltg hsz k1 b1 s1 k2 b2 k1' HS0
  cases c1 with
  | true =>
    have hh := H0.out
    unfold valueF at hh
    rw [if_pos (show (⟨c0, true⟩ : S44).f1 = true from rfl)] at hh
    obtain ⟨⟨tr, s2, e2, odd2⟩, htf, hh⟩ := Option.bind_eq_some_iff.mp hh
    have HT := Aside0.mk htf
    simp only at hh
    have H := Aside0.mk hh
    clear htf hh H0
    go_enter Tryz.func41, Tryz.ntmps41
    go_wp2_with fail
    generalize (w.alloc (.cells #[.int .i64 c0, .bool true] 44)).alloc (.cells #[.bool false, .int .i64 0, .string ⟨#[]⟩] 46) = W1 at *
    refine (truth.calls rb g s e odd tr s2 e2 odd2 w0 W1 HS.out.1 HS.out.2.1 HT.out).mono ?_
    rintro x w3 ⟨rfl, hS3⟩
    have KC3 := Aside0.mk ((hS3.2.2.2 _ (Array.getElem?_eq_some_iff.1 KC.out).1 NC.out.1 NC.out.2).trans KC.out)
    have KV3 := Aside0.mk ((hS3.2.2.2 _ (Array.getElem?_eq_some_iff.1 KV.out).1 NB.out.1 NB.out.2.1).trans KV.out)
    have HS3 := Aside0.mk (HS.out.then hS3)
    clear hS3 HS KC KV HT
    have HS := HS3; have KC := KC3; have KV := KV3
    clear HS3 KC3 KV3
    cases tr with
    | true =>
      have hv := H.out
      rw [if_pos (rfl : true = true)] at hv
      have hv := Option.some.inj hv
      simp only [Prod.mk.injEq] at hv
      obtain ⟨rfl, rfl, rfl, rfl⟩ := hv
      clear H
      have hkv := KV.out
      have q0 := (blk_cell hkv 0).trans rfl
      have q1 := (blk_cell hkv 1).trans rfl
      have q2 := (blk_cell hkv 2).trans rfl
      have z0 := blk_frozen hkv 0
      have z1 := blk_frozen hkv 1
      have z2 := blk_frozen hkv 2
      clear hkv
      go_wp2_with fail
      refine bodyPost_ret (v := .agg #[.bool true, .int .i64 0, .string ⟨#[]⟩]) (by simp [results, Tryz.results41, go_sem, q0, q1, q2]) rfl ⟨rfl, ?_⟩
      iterate 3 refine RdrStep.far ?_ NB.out.1 NB.out.2.1 NB.out.2.2.1 NB.out.2.2.2 _
      exact HS.out
    | false =>
      replace H : Aside0 (bodyV s2 e2 odd2 ⟨c0, true⟩ = some (v, s', e', odd')) := ⟨by have := H.out; rw [if_neg (by decide : ¬ (false = true))] at this; exact this⟩
      obtain ⟨c1, hc1⟩ : ∃ c1, c1 = true := ⟨_, rfl⟩
      rw [← hc1] at H KC
      clear hc1
      generalize odd2 = odd at *
      obtain ⟨hrb, hrge, hrne, hcur⟩ := HS.out.1
      have r0 := (blk_cell hrb 0).trans rfl
      have r1 := (blk_cell hrb 1).trans rfl
      have k0 := (blk_cell KC.out 0).trans rfl
      have HCUR := Aside0.mk hcur
      clear hrb hrge hrne hcur
      have hv := H.out
      unfold bodyV at hv
      cases odd with
      | true =>
        rw [if_pos (rfl : true = true)] at hv
        have hv := Option.some.inj hv
        simp only [Prod.mk.injEq] at hv
        obtain ⟨rfl, rfl, rfl, rfl⟩ := hv
        clear H
        have hkv := KV.out
        have q0 := (blk_cell hkv 0).trans rfl
        have q1 := (blk_cell hkv 1).trans rfl
        have q2 := (blk_cell hkv 2).trans rfl
        have z0 := blk_frozen hkv 0
        have z1 := blk_frozen hkv 1
        have z2 := blk_frozen hkv 2
        clear hkv
        go_wp2_with fail
        refine bodyPost_ret (v := .agg #[.bool false, .int .i64 0, .string ⟨#[]⟩]) (by simp [results, Tryz.results41, go_sem, q0, q1, q2]) rfl ⟨rfl, ?_⟩
        iterate 3 refine RdrStep.far ?_ NB.out.1 NB.out.2.1 NB.out.2.2.1 NB.out.2.2.2 _
        exact HS.out
      | false =>
        rw [if_neg (by decide : ¬ (false = true))] at hv
        by_cases hc0 : c0 = 1
        · rw [if_pos (show (⟨c0, c1⟩ : S44).f0 = 1 from hc0)] at hv
          have gk : (c0 == 1) = true := beq_iff_eq.mpr hc0
          obtain ⟨⟨n, s2, e2⟩, hif, hv⟩ := Option.bind_eq_some_iff.mp hv
          have hv := Option.some.inj hv
          simp only [Prod.mk.injEq] at hv
          obtain ⟨rfl, rfl, rfl, rfl⟩ := hv
          have HIF := Aside0.mk hif
          clear H hif hc0
          go_wp2_with fail
          refine (tally_Cursor_Int.calls g _ _ n _ _ w0 _ HCUR.out HS.out.2.1 HIF.out).mono ?_
          rintro x w5 ⟨rfl, hS5, hB5, hK5⟩
          have KV5 := Aside0.mk ((hK5.2 _ (Array.getElem?_eq_some_iff.1 KV.out).1 NB.out.2.1 (by simp)).trans KV.out)
          have HS5 := Aside0.mk (HS.out.cur hS5 hB5 hK5)
          clear hS5 hB5 hK5 r0 r1 k0 HCUR HS KV
          have HS := HS5; have KV := KV5
          clear HS5 KV5
          have hkv := KV.out
          have q0 := (blk_cell hkv 0).trans rfl
          have q1 := (blk_cell hkv 1).trans rfl
          have q2 := (blk_cell hkv 2).trans rfl
          have z0 := blk_frozen hkv 0
          have z1 := blk_frozen hkv 1
          have z2 := blk_frozen hkv 2
          clear hkv
          go_wp2_with fail
          refine bodyPost_ret (v := .agg #[.bool false, .int .i64 n, .string ⟨#[]⟩]) (by simp [results, Tryz.results41, go_sem, q0, q1, q2]) rfl ⟨rfl, ?_⟩
          iterate 3 refine RdrStep.far ?_ NB.out.1 NB.out.2.1 NB.out.2.2.1 NB.out.2.2.2 _
          exact HS.out
        · rw [if_neg (show ¬ (⟨c0, c1⟩ : S44).f0 = 1 from hc0)] at hv
          have gk : (c0 == 1) = false := beq_eq_false_iff_ne.mpr hc0
          obtain ⟨⟨n, s2, e2⟩, hif, hv⟩ := Option.bind_eq_some_iff.mp hv
          have hv := Option.some.inj hv
          simp only [Prod.mk.injEq] at hv
          obtain ⟨rfl, rfl, rfl, rfl⟩ := hv
          have HIF := Aside0.mk hif
          clear H hif hc0
          go_wp2_with fail
          refine (tally_Cursor_Text.calls 10 g _ _ 64 n _ _ w0 _ HCUR.out HS.out.2.1 HIF.out).mono ?_
          rintro x w5 ⟨rfl, hS5, hB5, hK5⟩
          have KV5 := Aside0.mk ((hK5.2 _ (Array.getElem?_eq_some_iff.1 KV.out).1 NB.out.2.1 (by simp)).trans KV.out)
          have HS5 := Aside0.mk (HS.out.cur hS5 hB5 hK5)
          clear hS5 hB5 hK5 r0 r1 k0 HCUR HS KV
          have HS := HS5; have KV := KV5
          clear HS5 KV5
          have hkv := KV.out
          have q0 := (blk_cell hkv 0).trans rfl
          have q1 := (blk_cell hkv 1).trans rfl
          have q2 := (blk_cell hkv 2).trans rfl
          have z0 := blk_frozen hkv 0
          have z1 := blk_frozen hkv 1
          have z2 := blk_frozen hkv 2
          clear hkv
          go_wp2_with fail
          refine bodyPost_ret (v := .agg #[.bool false, .int .i64 0, .string n]) (by simp [results, Tryz.results41, go_sem, q0, q1, q2]) rfl ⟨rfl, ?_⟩
          iterate 3 refine RdrStep.far ?_ NB.out.1 NB.out.2.1 NB.out.2.2.1 NB.out.2.2.2 _
          exact HS.out
  | false =>
    have H : Aside0 (bodyV s e odd ⟨c0, false⟩ = some (v, s', e', odd')) := ⟨by have := H0.out; unfold valueF at this; rw [if_neg (show ¬ (⟨c0, false⟩ : S44).f1 = true from by simp)] at this; exact this⟩
    have k1f := (blk_cell KC.out 1).trans rfl
    clear H0
    go_enter Tryz.func41, Tryz.ntmps41
    go_upto_region 3 with fail
    clear k1f
    generalize (w.alloc (.cells #[.int .i64 c0, .bool false] 44)).alloc (.cells #[.bool false, .int .i64 0, .string ⟨#[]⟩] 46) = W1 at *
    obtain ⟨hrb, hrge, hrne, hcur⟩ := HS.out.1
    have r0 := (blk_cell hrb 0).trans rfl
    have r1 := (blk_cell hrb 1).trans rfl
    have k0 := (blk_cell KC.out 0).trans rfl
    have HCUR := Aside0.mk hcur
    clear hrb hrge hrne hcur
    have hv := H.out
    unfold bodyV at hv
    cases odd with
    | true =>
      rw [if_pos (rfl : true = true)] at hv
      have hv := Option.some.inj hv
      simp only [Prod.mk.injEq] at hv
      obtain ⟨rfl, rfl, rfl, rfl⟩ := hv
      clear H
      have hkv := KV.out
      have q0 := (blk_cell hkv 0).trans rfl
      have q1 := (blk_cell hkv 1).trans rfl
      have q2 := (blk_cell hkv 2).trans rfl
      have z0 := blk_frozen hkv 0
      have z1 := blk_frozen hkv 1
      have z2 := blk_frozen hkv 2
      clear hkv
      go_wp2_with fail
      refine bodyPost_ret (v := .agg #[.bool false, .int .i64 0, .string ⟨#[]⟩]) (by simp [results, Tryz.results41, go_sem, q0, q1, q2]) rfl ⟨rfl, ?_⟩
      iterate 3 refine RdrStep.far ?_ NB.out.1 NB.out.2.1 NB.out.2.2.1 NB.out.2.2.2 _
      exact HS.out
    | false =>
      rw [if_neg (by decide : ¬ (false = true))] at hv
      by_cases hc0 : c0 = 1
      · rw [if_pos (show (⟨c0, false⟩ : S44).f0 = 1 from hc0)] at hv
        have gk : (c0 == 1) = true := beq_iff_eq.mpr hc0
        obtain ⟨⟨n, s2, e2⟩, hif, hv⟩ := Option.bind_eq_some_iff.mp hv
        have hv := Option.some.inj hv
        simp only [Prod.mk.injEq] at hv
        obtain ⟨rfl, rfl, rfl, rfl⟩ := hv
        have HIF := Aside0.mk hif
        clear H hif hc0
        go_wp2_with fail
        refine (tally_Cursor_Int.calls g _ _ n _ _ w0 _ HCUR.out HS.out.2.1 HIF.out).mono ?_
        rintro x w5 ⟨rfl, hS5, hB5, hK5⟩
        have KV5 := Aside0.mk ((hK5.2 _ (Array.getElem?_eq_some_iff.1 KV.out).1 NB.out.2.1 (by simp)).trans KV.out)
        have HS5 := Aside0.mk (HS.out.cur hS5 hB5 hK5)
        clear hS5 hB5 hK5 r0 r1 k0 HCUR HS KV
        have HS := HS5; have KV := KV5
        clear HS5 KV5
        have hkv := KV.out
        have q0 := (blk_cell hkv 0).trans rfl
        have q1 := (blk_cell hkv 1).trans rfl
        have q2 := (blk_cell hkv 2).trans rfl
        have z0 := blk_frozen hkv 0
        have z1 := blk_frozen hkv 1
        have z2 := blk_frozen hkv 2
        clear hkv
        go_wp2_with fail
        refine bodyPost_ret (v := .agg #[.bool false, .int .i64 n, .string ⟨#[]⟩]) (by simp [results, Tryz.results41, go_sem, q0, q1, q2]) rfl ⟨rfl, ?_⟩
        iterate 3 refine RdrStep.far ?_ NB.out.1 NB.out.2.1 NB.out.2.2.1 NB.out.2.2.2 _
        exact HS.out
      · rw [if_neg (show ¬ (⟨c0, false⟩ : S44).f0 = 1 from hc0)] at hv
        have gk : (c0 == 1) = false := beq_eq_false_iff_ne.mpr hc0
        obtain ⟨⟨n, s2, e2⟩, hif, hv⟩ := Option.bind_eq_some_iff.mp hv
        have hv := Option.some.inj hv
        simp only [Prod.mk.injEq] at hv
        obtain ⟨rfl, rfl, rfl, rfl⟩ := hv
        have HIF := Aside0.mk hif
        clear H hif hc0
        go_wp2_with fail
        refine (tally_Cursor_Text.calls 10 g _ _ 64 n _ _ w0 _ HCUR.out HS.out.2.1 HIF.out).mono ?_
        rintro x w5 ⟨rfl, hS5, hB5, hK5⟩
        have KV5 := Aside0.mk ((hK5.2 _ (Array.getElem?_eq_some_iff.1 KV.out).1 NB.out.2.1 (by simp)).trans KV.out)
        have HS5 := Aside0.mk (HS.out.cur hS5 hB5 hK5)
        clear hS5 hB5 hK5 r0 r1 k0 HCUR HS KV
        have HS := HS5; have KV := KV5
        clear HS5 KV5
        have hkv := KV.out
        have q0 := (blk_cell hkv 0).trans rfl
        have q1 := (blk_cell hkv 1).trans rfl
        have q2 := (blk_cell hkv 2).trans rfl
        have z0 := blk_frozen hkv 0
        have z1 := blk_frozen hkv 1
        have z2 := blk_frozen hkv 2
        clear hkv
        go_wp2_with fail
        refine bodyPost_ret (v := .agg #[.bool false, .int .i64 0, .string n]) (by simp [results, Tryz.results41, go_sem, q0, q1, q2]) rfl ⟨rfl, ?_⟩
        iterate 3 refine RdrStep.far ?_ NB.out.1 NB.out.2.1 NB.out.2.2.1 NB.out.2.2.2 _
        exact HS.out
end Go.Proofs.YtojcbknclfamhaaGreatDoor.A
