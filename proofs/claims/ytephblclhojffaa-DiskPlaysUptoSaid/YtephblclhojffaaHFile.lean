/- New, Read, Held: a disk that is made, a file that is read, all files' bytes. -/
import Derived.Test.YtephblclhojffaaAx0
import Derived.Test.YtephblclhojffaaHNames
namespace Go.Proofs.Ytephblclhojffaa.A
open Go.RowKit Go.Proofs.YtephblclhojffaaW.PrintWords Go.Proofs.YtephblclhojffaaW.PrintLast Go.Proofs.YtephblclhojffaaW.PrintMore
open Go.Maps
set_option linter.unusedVariables false
set_option linter.unusedSimpArgs false

/-- A string of these bytes. -/
def bsS (s : Bs) : ByteArray := ⟨s.toArray⟩
theorem bsS_size (s : Bs) : (bsS s).size = s.length := by simp [bsS, ByteArray.size]
theorem bsS_list (s : Bs) : (bsS s).data.toList = s := by simp [bsS]
theorem bsS_back (s : ByteArray) : bsS s.data.toList = s := by simp [bsS]
theorem strOf_bs (s : Bs) : strOfNums (s.map fun c => (c.toNat : Int)) = bsS s := by
  unfold strOfNums bsS
  congr 1
  apply Array.ext'
  simp [Function.comp_def]
section
variable {pl : Bool} {w : World} {own : Nat → Prop} {fb : List Nat} {db dm sm : Nat} {chs : Value} {sl xs : List Value} {M : DM}
theorem SlIs.reads {v : Value} {s : Bs} (h : SlIs pl w own v s) (hs : s.length ≤ 9223372036854775807) : ∃ A c, v = .slice A s.length c ∧ s.length ≤ c ∧ ReadsInt w .u8 A s.length (s.map fun c => (c.toNat : Int)) := by
  rcases h with ⟨rfl, rfl⟩ | ⟨g, cap, cur, fr, rfl, _, hg, _, h1, h2, h3, h4⟩
  · exact ⟨none, 0, rfl, Nat.le_refl _, rfl, by simp, fun h => by simp at h⟩
  · refine ⟨_, cap, rfl, h1, by simp, hs, fun _ => ⟨_, rfl, fun j hj => ?_⟩⟩
    have e : (⟨g, 0, none⟩ : Addr).add j = ⟨g, j, none⟩ := by unfold Addr.add; split <;> simp_all
    rw [e]
    have hc : cur[j]? = some (.int .u8 (s[j].toNat : Int)) := by
      have h5 : (cur.toList.take s.length)[j]? = some (.int .u8 (s[j].toNat : Int)) := by rw [h4]; simp [hj]
      rw [List.getElem?_take_of_lt hj] at h5
      simpa using h5
    simp [World.cell?, hg, hc, List.getD_eq_getElem?_getD, hj]
set_option maxHeartbeats 1000000 in
theorem New.calls (n : Int) (w : World) : Calls Try.prog 17 #[.int .i64 n] w fun e w' => ∃ db own, e = .returned (.pointer (some ⟨db, 0, none⟩)) ∧ IsDisk true w' own db (newF n) ∧ Below w.heap.size w w' ∧ ∀ k, own k → w.heap.size ≤ k := by
  have hmm := @run_makeMap Try.prog
  have fin : IsDisk true (((w.alloc (.map #[] 0)).alloc (.map #[] 0)).alloc (.cells #[.int .i64 (max n 0), .map (some w.heap.size), .map (some (w.heap.size + 1)), .slice none 0 0, .int .i64 0, .int .i64 4611686018427387904, .int .i64 4611686018427387904] 64)) (fun k => w.heap.size ≤ k ∧ k < w.heap.size + 3) (w.heap.size + 1 + 1) (newF n) := by
    refine ⟨w.heap.size, w.heap.size + 1, .slice none 0 0, [], [], [], ⟨?_, ?_, ⟨rfl, rfl, by simp, by simp, by simp, by simp⟩, ⟨?_, ?_, by simp [newF]⟩, ⟨?_, ?_, by simp [newF]⟩, by omega, ⟨World.ownsRow_nil _ _ _ _, by simp [Value.ownBlock], rfl, by simp⟩, ?_⟩⟩
    · omega
    · have h := heap_alloc ((w.alloc (.map #[] 0)).alloc (.map #[] 0)) (.cells #[.int .i64 (max n 0), .map (some w.heap.size), .map (some (w.heap.size + 1)), .slice none 0 0, .int .i64 0, .int .i64 4611686018427387904, .int .i64 4611686018427387904] 64)
      have e : ((w.alloc (.map #[] 0)).alloc (.map #[] 0)).heap.size = w.heap.size + 1 + 1 := by simp
      rw [e] at h
      rw [h]
      have e2 : max n 0 = mx0 n := by unfold mx0; split <;> omega
      rw [e2]
      rfl
    · omega
    · have h := ((World.ownsMap_made w Try.prog 9 ptrElem).alloc (.map #[] 0)).alloc (.cells #[.int .i64 (max n 0), .map (some w.heap.size), .map (some (w.heap.size + 1)), .slice none 0 0, .int .i64 0, .int .i64 4611686018427387904, .int .i64 4611686018427387904] 64)
      exact h
    · omega
    · have h := (World.ownsMap_made (w.alloc (.map #[] 0)) Try.prog 9 ptrElem).alloc (.cells #[.int .i64 (max n 0), .map (some w.heap.size), .map (some (w.heap.size + 1)), .slice none 0 0, .int .i64 0, .int .i64 4611686018427387904, .int .i64 4611686018427387904] 64)
      have e : (w.alloc (.map #[] 0)).heap.size = w.heap.size + 1 := by simp
      rw [e] at h
      exact h
    · intro k hk
      simp
      omega
  have F := Aside0.mk fin
  clear fin
  go_enter Try.func17, Try.ntmps17
  go_wp2
  go_ret
  exact ⟨_, _, rfl, F.out, (((Below.refl _ w).alloc (Nat.le_refl _) _).alloc (by simp) _).alloc (by simp; omega) _, fun k hk => hk.1⟩

theorem rdF (fs : List (Bs × Nat)) (i : Nat) (hi : i < fs.length) : fs[i]? = some (fs.getD i ([], 0)) := by simp [List.getD_eq_getElem?_getD, hi]
/-- A file that a directory names. -/
theorem DiskR.file (h : DiskR pl w own db dm sm chs fb sl xs M) {k : Bs} {i : Nat} (hg : dGet M.dir k = some i) :
    ∃ v, i < M.files.length ∧ fb[i]? = some (fbG fb i) ∧ sl[i]? = some v ∧ w.heap[fbG fb i]? = some (.cells #[v, .int .i64 (M.files.getD i ([], 0)).2] 59 (0, 0)) ∧ SlIs pl w own v (M.files.getD i ([], 0)).1 := by
  have hi := h.dirR.val _ (dGet_mem hg)
  simp only at hi
  have h1 : fb[i]? = some (fbG fb i) := by simp [fbG, List.getD_eq_getElem?_getD, hi]
  have hf : i < M.files.length := by rw [← h.files.lenb]; exact hi
  have h2 : i < sl.length := by rw [h.files.lens]; exact hf
  refine ⟨sl[i], hf, h1, by simp [h2], ?_⟩
  exact h.files.blk i _ _ _ h1 (by simp [h2]) (rdF _ _ hf)
/-- No text is greater than t. -/
def Fits (M : DM) (t : Nat) : Prop := ∀ i, (M.files.getD i ([], 0)).1.length ≤ t

set_option maxHeartbeats 1000000 in
theorem Read.calls (h : DiskR pl w own db dm sm chs fb sl xs M) (nm : ByteArray) (hs : nm.size ≤ maxLen) (hf : Fits M 1099511627776) :
    Calls Try.prog 14 #[.pointer (some ⟨db, 0, none⟩), .string nm] w fun e w' => e = .returned (.tuple #[.string (bsS (readF M nm.data.toList).1), .int .i64 (readF M nm.data.toList).2]) ∧ w' = w := by
  have hl := look h.dirR nm hs
  have c1 := cells_of h.bdb 1 rfl
  cases hg : dGet M.dir nm.data.toList with
  | none =>
    have e1 := Aside0.mk (show readF M nm.data.toList = ([], 12) by unfold readF; rw [hg])
    rw [hg] at hl
    simp only [Option.map_none, ptrV] at hl
    clear hg h hs
    go_enter Try.func14, Try.ntmps14
    go_wp2
    go_ret2
    exact ⟨by rw [e1.out]; rfl, rfl⟩
  | some i =>
    have e1 := Aside0.mk (show readF M nm.data.toList = ((M.files.getD i ([], 0)).1, 0) by unfold readF; rw [hg])
    obtain ⟨v, hi, -, -, hb, hsl⟩ := h.file hg
    have hle := hf i
    obtain ⟨A, c, rfl, hc, hr⟩ := hsl.reads (by omega)
    have hconv := string_of_reads (P := Try.prog) (src := 57) (dst := 9) (c := c) Try.underlying57 Try.underlying5 Try.underlying9 hr
    rw [strOf_bs] at hconv
    have f0 := cells_of hb 0 rfl
    rw [hg] at hl
    simp only [Option.map_some, ptrV] at hl
    have e2 := Aside0.mk (show bsS (readF M nm.data.toList).1 = bsS (M.files.getD i ([], 0)).1 by rw [e1.out])
    have e3 := Aside0.mk (show (readF M nm.data.toList).2 = 0 by rw [e1.out])
    clear e1
    generalize bsS (M.files.getD i ([], 0)).1 = s at hconv e2
    generalize (M.files.getD i ([], 0)).1.length = n at hconv f0
    generalize fbG fb i = b at hl f0
    generalize (M.files.getD i ([], 0)).2 = m at f0
    clear hg h hs hr hsl hb hle hf hi hc

    go_enter Try.func14, Try.ntmps14
    go_wp2
    go_ret2
    exact ⟨by rw [e2.out, e3.out]; rfl, rfl⟩
set_option maxHeartbeats 1000000 in
theorem Read_nil.calls (nm : ByteArray) (w : World) :
    Calls Try.prog 14 #[.pointer none, .string nm] w fun e w' => e = .returned (.tuple #[.string (bsS []), .int .i64 12]) ∧ w' = w := by
  go_enter Try.func14, Try.ntmps14
  go_wp2
  go_ret2
  exact ⟨rfl, rfl⟩
end
end Go.Proofs.Ytephblclhojffaa.A
