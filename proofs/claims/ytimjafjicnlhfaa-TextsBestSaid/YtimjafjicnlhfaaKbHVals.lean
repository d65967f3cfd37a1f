/- slices.Values at texts: a function value over one new block that holds the slice; it gives the slice's texts one by one. -/
import Derived.Test.YtimjafjicnlhfaaKbAx0
import Derived.Test.YtimjafjicnlhfaaKbShelf
import Derived.Shelf.SlIter.Nil
namespace Go.Proofs.Ytimjafjicnlhfaa.A
open Go.RowKit Go.Proofs.YtimjafjicnlhfaaW.PrintWords Go.Proofs.YtimjafjicnlhfaaW.PrintLast Go.Proofs.YtimjafjicnlhfaaW.PrintMore
open Go.Shelf Go.Sort
set_option linter.unusedVariables false
set_option linter.unusedSimpArgs false
set_option maxRecDepth 100000 in
theorem values.calls (A : Option Addr) (n c : Nat) (w : World) :
    Calls Try.prog 22 #[.slice A n c] w fun e w' => e = .returned (.func (.func 50) #[] #[.pointer (some ⟨w.heap.size, 0, none⟩)]) ∧ w' = w.alloc (.cells #[.slice A n c] 22) := by
  go_enter Try.func22, Try.ntmps22
  go_wp2
  go_ret
  exact ⟨rfl, rfl⟩
def strsOf (l : List ByteArray) : List (List UInt8) := l.map (fun s => s.data.toList)
set_option maxRecDepth 100000 in
set_option maxHeartbeats 2000000 in
theorem values_gives (l : List ByteArray) (A : Option Addr) (c : Nat) (w : World) (hC : Kd.C Kd.string w A l.length l) (hc : l.length ≤ c) (Bm : Nat) (hBm : Bm < w.heap.size) (hm : w.cell? ⟨Bm, 0, none⟩ = some (.slice A l.length c)) (n : Nat) (hn : 1 ≤ n)
    (lp : Nat) (J : List (List UInt8) → World → Prop) (W : World) (hW : Below w.heap.size w W) (hJb : ∀ s W, J s W → Below w.heap.size w W)
    (hY : ∀ pre x W1, J pre W1 → pre.length < l.length → YieldAt Fence.wide (n - 1) Try.prog lp #[encStr x] W1 fun e W' => e = .returned (.bool true) ∧ J (pre ++ [x]) W' ∧ KeepsWalks W1 W') (h0 : J [] W) :
    CallsIn Fence.wide n Try.prog 50 (#[.func (.yield lp) #[] #[]] ++ #[.pointer (some ⟨Bm, 0, none⟩)]) W fun e W' => (∃ v, e = .returned v) ∧ J (strsOf l) W' := by
  have hbox := (hW.cell (p := ⟨Bm, 0, none⟩) hBm).trans hm
  refine callsIn_of_wp Try.func50 rfl trivial ?_ rfl
  simp only [Try.ntmps50, List.size_toArray, List.length_cons, List.length_nil, Nat.reduceAdd, Nat.reduceSub, Array.replicate_succ, Array.replicate_zero, List.push_toArray, List.append_toArray, List.nil_append, List.cons_append]
  gi_wp2
  gi_loopw [7] (fun s7 wr => ∃ j : Nat, j ≤ l.length ∧ s7 = .int .i64 j ∧ J (strsOf (l.take j)) wr) (fun i _ => l.length - (intOf i).toNat)
  case atStart => exact ⟨0, Nat.zero_le _, rfl, h0⟩
  case round =>
    obtain ⟨j, hj, rfl, hJs⟩ := hrel
    by_cases hlt : j < l.length
    · have hltn : decide (j < l.length) = true := decide_eq_true hlt
      have hltz : decide ((j : Int) < (l.length : Int)) = true := decide_eq_true (by omega)
      obtain ⟨ad, e, hx⟩ := Kd.at_string hC (j : Int) (by omega) (by omega)
      cases e
      have hbw := hJb _ _ hJs
      replace hx := (hbw.cell (World.block_lt_of_cell? w _ hx)).trans hx
      rw [Int.toNat_natCast] at hx
      have hxe : rdOf ByteArray.empty l (j : Int) = l[j] := by simp [rdOf, hlt]
      have htk : strsOf (l.take (j + 1)) = strsOf (l.take j) ++ [(rdOf ByteArray.empty l (j : Int)).data.toList] := by
        unfold strsOf
        rw [List.take_add_one, List.getElem?_eq_getElem hlt, List.map_append, hxe]
        rfl
      obtain ⟨fn, tmps, assign, body, hy, hR⟩ := hY (strsOf (l.take j)) (rdOf ByteArray.empty l (j : Int)).data.toList wr hJs (by unfold strsOf; rw [List.length_map, List.length_take]; omega)
      rw [show encStr (rdOf ByteArray.empty l (j : Int)).data.toList = .string (rdOf ByteArray.empty l (j : Int)) from rfl] at hy
      have HTK := Aside0.mk htk; have HLT := Aside0.mk hlt
      generalize rdOf ByteArray.empty l (j : Int) = x at *
      have hpz : ((0 : Int) ≤ (j : Int)) = True := eq_true (by omega)
      have hpl : ((j : Int) < (l.length : Int)) = True := eq_true (by omega)
      have hpj : IntKind.i64.wrap ((j : Int) + 1) = (j : Int) + 1 := IntWalk.i64_in _ (by have := hC.2.1; omega)
      clear htk hxe hlt hj
      gi_wp2
      refine hR.mono ?_
      rintro e W3 ⟨rfl, hJ3, hk3⟩
      gi_wp2
      go_roundw
      case rel => exact ⟨j + 1, HLT.out, by push_cast; rfl, by rw [HTK.out]; exact hJ3⟩
      case measure => have := HLT.out; simp [intOf]; omega
    · have hje : j = l.length := by omega
      subst hje
      rw [List.take_length] at hJs
      have hltn : decide (l.length < l.length) = false := decide_eq_false (by omega)
      gi_wp2
      go_end0
      exact ⟨⟨_, rfl⟩, hJs⟩
end Go.Proofs.Ytimjafjicnlhfaa.A
