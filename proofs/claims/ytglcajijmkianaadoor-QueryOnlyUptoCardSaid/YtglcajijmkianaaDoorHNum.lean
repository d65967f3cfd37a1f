/- The reader's number; on every reader and word, in every world that holds strconv's table and errors. -/
import Derived.Test.YtglcajijmkianaaDoorAx0
import Derived.Test.YtglcajijmkianaaDoorHReader
import Derived.Test.YtglcajijmkianaaDoorHLib
namespace Go.Proofs.YtglcajijmkianaaDoor.A
open Go.RowKit Go.Proofs.YtglcajijmkianaaDoorW.PrintWords Go.Proofs.YtglcajijmkianaaDoorW.PrintLast Go.Proofs.YtglcajijmkianaaDoorW.PrintMore
open Go.Lib
set_option linter.unusedVariables false
set_option linter.unusedSimpArgs false

def numF (word : ByteArray) : Int × Bool := match Lib.parseIntB 64 word.data.toList with
  | .ok v => (v, decide (Lib.itoa v = word.data.toList))
  | .range => (Lib.intSat 64 word.data.toList, false)
  | _ => (0, false)

theorem bytesWorld_below {w w' : World} (h : w' = w ∨ ∃ t, w' = Lib.bytesWorld w 5 t) : Below w.heap.size w w' := by
  rcases h with rfl | ⟨t, rfl⟩
  · exact Below.refl _ _
  · exact bytes_below (Below.refl _ _) (Nat.le_refl _) 5 t

theorem str_eq_of (a b : List UInt8) : ((⟨a.toArray⟩ : ByteArray).toList == b) = decide (a = b) := by
  rw [show (⟨a.toArray⟩ : ByteArray).toList = a from by rw [ByteArray.toList_eq]]
  by_cases h : a = b <;> simp [h]

set_option maxRecDepth 100000 in
set_option maxHeartbeats 4000000 in
theorem number.calls (w0 w : World) (g : Nat) (l : List ByteArray) (bad : Bool) (word : ByteArray) (hI : IsRd w0 w g l bad) (hB : Below w0.heap.size w0 w) (hG : Globs w0) (hs : word.size ≤ 281474976710656) :
    Calls Tryd.prog 75 #[.pointer (some ⟨g, 0, none⟩), .string word] w fun e w' => e = .returned (.int .i64 (numF word).1) ∧ RdStep w0 w w' g l (bad || !(numF word).2) := by
  have HI := Aside0.mk (RdStep.start hI hB)
  have HG := Aside0.mk (hG.below hB)
  cases hp : Lib.parseIntB 64 word.data.toList with
  | ok v =>
    have hcall := Tryd.strconv_ParseInt_10_at64_ok word (by omega) v hp w
    have hbd := Lib.parseIntB_bounds hp
    have HV : Aside0 (numF word = (v, decide (Lib.itoa v = word.data.toList))) := ⟨by simp [numF, hp]⟩
    have hfmt : ∀ W, Globs W → Calls Tryd.prog 53 #[.int .i64 v, .int .i64 10] W fun e w' => e = .returned (.string ⟨(Lib.itoa v).toArray⟩) ∧ Below W.heap.size W w' := fun W hW =>
      strconv_FormatInt.calls v 10 _ W (by simp only [strconv_FormatInt.f]; rw [if_pos ⟨by simpa using hbd.1, by have := hbd.2; simp at this; omega, by trivial⟩]) hW
    have hstr : ∀ b, decide (Lib.itoa v = word.data.toList) = b → ((⟨(Lib.itoa v).toArray⟩ : ByteArray).toList == word.toList) = b := fun b hb => by
      rw [str_eq_of, ← hb, show word.toList = word.data.toList from ByteArray.toList_eq word]
    have HS := Aside0.mk hstr
    have HF := Aside0.mk hfmt
    clear hI hB hG hp hbd hfmt hstr
    cases hb : decide (Lib.itoa v = word.data.toList) with
    | true =>
      have hs1 := HS.out true hb
      rw [hb] at HV
      generalize (⟨(Lib.itoa v).toArray⟩ : ByteArray) = txt at hs1 HF
      clear hb HS
      go_enter Tryd.func75, Tryd.ntmps75
      go_wp2_with fail
      refine hcall.mono ?_
      rintro e w1 ⟨rfl, hb1⟩
      have HB1 := Aside0.mk (bytesWorld_below hb1)
      clear hb1 hcall
      go_wp2_with fail
      refine (HF.out w1 (HG.out.below HB1.out)).mono ?_
      rintro e w2 ⟨rfl, hb2⟩
      have HI2 := Aside0.mk ((HI.out.below HB1.out).below hb2)
      clear hb2 HF
      go_wp2_with fail
      refine (must.calls w0 w2 g l bad true HI2.out.1 HI2.out.2.1).mono ?_
      rintro e w3 ⟨rfl, hS⟩
      have HI3 := Aside0.mk (HI2.out.then hS)
      clear hS
      go_wp2_with fail
      go_ret
      exact ⟨by rw [HV.out]; rfl, by rw [HV.out]; exact HI3.out⟩
    | false =>
      have hs1 := HS.out false hb
      rw [hb] at HV
      generalize (⟨(Lib.itoa v).toArray⟩ : ByteArray) = txt at hs1 HF
      clear hb HS
      go_enter Tryd.func75, Tryd.ntmps75
      go_wp2_with fail
      refine hcall.mono ?_
      rintro e w1 ⟨rfl, hb1⟩
      have HB1 := Aside0.mk (bytesWorld_below hb1)
      clear hb1 hcall
      go_wp2_with fail
      refine (HF.out w1 (HG.out.below HB1.out)).mono ?_
      rintro e w2 ⟨rfl, hb2⟩
      have HI2 := Aside0.mk ((HI.out.below HB1.out).below hb2)
      clear hb2 HF
      go_wp2_with fail
      refine (must.calls w0 w2 g l bad false HI2.out.1 HI2.out.2.1).mono ?_
      rintro e w3 ⟨rfl, hS⟩
      have HI3 := Aside0.mk (HI2.out.then hS)
      clear hS
      go_wp2_with fail
      go_ret
      exact ⟨by rw [HV.out]; rfl, by rw [HV.out]; exact HI3.out⟩
  | range =>
    obtain ⟨ev, hev, hev2⟩ := HG.out.rng
    have hcall := Tryd.strconv_ParseInt_10_at64_range word hs hp ev w hev hev2
    have HV : Aside0 (numF word = (Lib.intSat 64 word.data.toList, false)) := ⟨by simp [numF, hp]⟩
    generalize Lib.intSat 64 word.data.toList = sat at hcall HV
    clear hI hB hG hp hev hev2
    go_enter Tryd.func75, Tryd.ntmps75
    go_wp2_with fail
    refine hcall.mono ?_
    rintro e w1 ⟨N, rfl, _, _, hb1⟩
    have HI2 := Aside0.mk (HI.out.below hb1)
    clear hb1 hcall
    go_wp2_with fail
    refine (must.calls w0 w1 g l bad false HI2.out.1 HI2.out.2.1).mono ?_
    rintro e w3 ⟨rfl, hS⟩
    have HI3 := Aside0.mk (HI2.out.then hS)
    clear hS
    go_wp2_with fail
    go_ret
    exact ⟨by rw [HV.out]; rfl, by rw [HV.out]; exact HI3.out⟩
  | _ =>
    obtain ⟨ev, hev, hev2⟩ := HG.out.syn
    have hcall := Tryd.strconv_ParseInt_10_at64_bad word hs (fun v => by rw [hp]; simp) (by rw [hp]; simp) ev w hev hev2
    have HV : Aside0 (numF word = (0, false)) := ⟨by simp [numF, hp]⟩
    clear hI hB hG hp hev hev2
    go_enter Tryd.func75, Tryd.ntmps75
    go_wp2_with fail
    refine hcall.mono ?_
    rintro e w1 ⟨N, rfl, _, _, hb1⟩
    have HI2 := Aside0.mk (HI.out.below hb1)
    clear hb1 hcall
    go_wp2_with fail
    refine (must.calls w0 w1 g l bad false HI2.out.1 HI2.out.2.1).mono ?_
    rintro e w3 ⟨rfl, hS⟩
    have HI3 := Aside0.mk (HI2.out.then hS)
    clear hS
    go_wp2_with fail
    go_ret
    exact ⟨by rw [HV.out]; rfl, by rw [HV.out]; exact HI3.out⟩
end Go.Proofs.YtglcajijmkianaaDoor.A
