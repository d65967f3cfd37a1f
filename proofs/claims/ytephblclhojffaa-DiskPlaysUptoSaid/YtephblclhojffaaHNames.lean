/- The disk's names, in order; maps.Clone of a directory. -/
import Derived.Test.YtephblclhojffaaAx0
import Derived.Test.YtephblclhojffaaHCall
import Derived.Test.YtephblclhojffaaShelf
import Derived.Sort.KeysCollected
namespace Go.Proofs.Ytephblclhojffaa.A
open Go.RowKit Go.Proofs.YtephblclhojffaaW.PrintWords Go.Proofs.YtephblclhojffaaW.PrintLast Go.Proofs.YtephblclhojffaaW.PrintMore
open Go.Maps Go.Sort Go.Shelf
set_option linter.unusedVariables false
set_option linter.unusedSimpArgs false

theorem sorts35 (m : Nat) : AnyZ.SortsIn Try.prog Try.sorted35_ren Fence.wide m :=
  ⟨fun blk off cap ss W hH hblk hsz => callsIn_wide.2 (AnyM.slices_Sort_string Try.sort59 blk off cap ss W hH hblk hsz),
   fun p cap W => callsIn_wide.2 (AnyM.slices_Sort_string_none Try.sort59 p cap W)⟩
theorem keys_run (mb : Option Nat) (W : World) : Calls Try.prog 36 #[.map mb] W fun e w' => e = .returned (.func (.func 60) #[] #[.pointer (some ⟨W.heap.size, 0, none⟩)]) ∧ w' = W.alloc (.cells #[.map mb] 61) :=
  (callsIn_wide (n := 5)).1 (AnyZ.keys_in Try.keys36 Fence.wide 5 trivial rfl mb W)
set_option maxHeartbeats 1000000 in
theorem sorted_run {H : Type} (b nn : Nat) (D0 : DataW H) (R : Value → Option (DataW H × List MemPlace)) (w : World) (hown : w.ownsMap Try.prog 9 R b nn D0) (hmax : Maps.size D0 ≤ maxLen) (hbytes : Maps.size D0 * 16 ≤ 140737488355328) :
    Calls Try.prog 35 #[.func (.func 60) #[] #[.pointer (some ⟨w.heap.size, 0, none⟩)]] (w.alloc (.cells #[.map (some b)] 61)) fun e w' => ∃ (v : Value) (ss : List (List UInt8)), e = .returned v ∧ ss.Perm (strKeys D0) ∧
      w'.ownsRow (w.alloc (.cells #[.map (some b)] 61)).heap.size 9 1 v ss.length ((ss.mergeSort (fun x y => decide (x ≤ y))).map encStr) ∧ (v = .slice none 0 0 ↔ ss = []) ∧ Below (w.alloc (.cells #[.map (some b)] 61)).heap.size (w.alloc (.cells #[.map (some b)] 61)) w' := by
  have hbl := hown.lt
  have hseq : SeqGives Fence.wide 2 Try.prog 60 #[.pointer (some ⟨w.heap.size, 0, none⟩)] encStr (fun ss => ss.Perm (strKeys D0)) (Maps.size D0) (w.alloc (.cells #[.map (some b)] 61)) :=
    AnyZ.keys_gives (ρ := Try.keys36_ren) { Try.keys36 with } Fence.wide _ trivial rfl (by omega) w.heap.size b nn D0 _ (by simp) (by simp) (by
      obtain ⟨es, clock, hb, Ft, hs, hD⟩ := hown
      exact ⟨es, clock, (Below.heap_alloc _ _ b hbl).trans hb, Ft, hs, hD⟩)
  exact (callsIn_wide (n := 5)).1 (AnyZ.sorted_in Try.sorted35 Fence.wide 5 trivial trivial trivial trivial rfl (by omega) (sorts35 _) (enters_of Try.func59 (by kernel_rfl) rfl) 60 #[.pointer (some ⟨w.heap.size, 0, none⟩)] trivial (enters_of Try.func60 (by kernel_rfl) rfl) _ _ hmax hbytes _ hseq)

/-! ### names in order -/
theorem before_lt : ∀ a b : Bs, bytesBefore a b = true ↔ a < b
  | [], [] => by simp [bytesBefore]
  | [], _ :: _ => by simp [bytesBefore]
  | _ :: _, [] => by simp [bytesBefore]
  | x :: r, y :: s => by
    rw [List.cons_lt_cons_iff, ← before_lt r s]
    simp [bytesBefore]
/-- A directory in order. -/
def Rising (d : Dir) : Prop := d.Pairwise fun p q => p.1 < q.1
theorem rising_of {fb : List Nat} {d : Dir} (h : Canon (dirD fb d)) : Rising d := by
  obtain ⟨es, he, hp, _⟩ := h
  unfold dirD at he
  injection he with he
  subst he
  rw [List.pairwise_map] at hp
  exact hp.imp (fun {p q} h => (before_lt p.1 q.1).1 h)
theorem strKeys_dirD (fb : List Nat) (d : Dir) : strKeys (dirD fb d) = d.map (·.1) := by
  unfold strKeys dirD
  simp only [List.map_map]
  rfl
theorem sort_names {d : Dir} (h : Rising d) {ss : List Bs} (hp : ss.Perm (d.map (·.1))) : ss.mergeSort (fun x y => decide (x ≤ y)) = d.map (·.1) := by
  have e := mergeSort_of_perm hp
  refine e.trans (List.mergeSort_of_pairwise ?_)
  rw [List.pairwise_map]
  exact h.imp (fun {p q} hl => by simpa [leB] using List.le_of_lt hl)
def namesF (M : DM) : List ByteArray := M.dir.map fun p => ⟨p.1.toArray⟩
section
variable {pl : Bool} {w : World} {own : Nat → Prop} {fb : List Nat} {db dm sm : Nat} {chs : Value} {sl xs : List Value} {M : DM}
theorem MapR.rising {b : Nat} {d : Dir} (h : MapR w own fb b d) : Rising d := rising_of (h.owns.canon strKey)
set_option maxHeartbeats 1000000 in
theorem Names.calls (h : DiskR pl w own db dm sm chs fb sl xs M) (hl : M.dir.length ≤ 1048576) :
    Calls Try.prog 15 #[.pointer (some ⟨db, 0, none⟩)] w fun e w' => ∃ v, e = .returned v ∧ w'.ownsRow w.heap.size 9 1 v (namesF M).length ((namesF M).map .string) ∧ Below w.heap.size w w' := by
  have HR := Aside0.mk h.dirR.rising
  have hs := sorted_run dm _ _ _ w h.dirR.owns (by rw [dirD_size]; unfold maxLen; omega) (by rw [dirD_size]; omega)
  have c1 := cells_of h.bdb 1 rfl
  clear h hl
  go_enter Try.func15, Try.ntmps15
  go_wp2_with fail
  refine (keys_run _ _).mono ?_
  rintro e w1 ⟨rfl, rfl⟩
  go_wp2_with fail
  refine hs.mono ?_
  rintro e w2 ⟨v, ss, rfl, hp, ho, _, hb⟩
  have HP := Aside0.mk hp; have HO := Aside0.mk ho; have HB := Aside0.mk hb
  clear hp ho hb hs
  go_wp2
  go_ret
  have hp := HP.out; rw [strKeys_dirD] at hp
  have ho := HO.out
  rw [sort_names HR.out hp] at ho
  have hl : ss.length = (namesF M).length := by rw [hp.length_eq]; simp [namesF]
  refine ⟨v, rfl, ?_, ((Below.refl _ w).alloc (Nat.le_refl _) _).trans (HB.out.mono (by simp))⟩
  rw [hl] at ho
  have e2 : (M.dir.map (·.1)).map encStr = (namesF M).map .string := by simp [namesF, encStr]
  rw [e2] at ho
  exact own_weaken ho (by simp)
set_option maxHeartbeats 1000000 in
theorem Names_nil.calls (w : World) : Calls Try.prog 15 #[.pointer none] w fun e w' => e = .returned (.slice none 0 0) ∧ w' = w := by
  go_enter Try.func15, Try.ntmps15
  go_wp2
  go_ret
  exact ⟨rfl, rfl⟩
theorem clone_run {b : Nat} {d : Dir} (h : MapR w own fb b d) : Calls Try.prog 34 #[.map (some b)] w fun e w' => e = .returned (.map (some w.heap.size)) ∧ w'.ownsMap Try.prog 9 ptrElem w.heap.size d.length (dirD fb d) ∧ Below w.heap.size w w' ∧ w'.heap.size = w.heap.size + 1 := by
  obtain ⟨es, clock, hb, F, hs, hD⟩ := h.owns
  refine (AnyW.maps_Clone Try.clone34 b es clock w hb).mono fun e w' ⟨he, hw⟩ => ?_
  subst hw
  exact ⟨he, ⟨es, clock, (MapKept.heap_alloc w _).1, F, hs, hD⟩, (Below.refl _ w).alloc (Nat.le_refl _) _, by simp⟩
end
end Go.Proofs.Ytephblclhojffaa.A
