/- strconv.Itoa at every number, out of the shelf's contracts; in every world that holds strconv's table and errors. · What the rows' list of package-level variables gives: strconv's table, its errors; and a world that holds them. · What a datum that is read says of the cells: each is of a kind; for ints, bools, strings, structs, slices; at whatever depth. · Columns, values, rows and deeds that are parameters: what is read of them as data is what the cells say. -/
import Derived.Test.YtojcbknclfamhaaGreatDoorKpAx0
import Derived.Test.YtojcbknclfamhaaGreatDoorKpShelf
import Derived.Shelf.Strconv.Itoa4
import Derived.Test.YtojcbknclfamhaaGreatDoorRows
import Derived.Test.YtojcbknclfamhaaGreatDoorTie
import Derived.Lib.LaidTab
import Derived.LaidMore
import Derived.Stop.LaidErr
import Derived.MakeChecks
import Derived.Deep.Slices
import Derived.Deep.Strs
import Derived.Lib.SmallJoins
import Derived.ChangeMaps5
namespace Go.Proofs.YtojcbknclfamhaaGreatDoor.A
open Go.RowKit Go.Proofs.YtojcbknclfamhaaGreatDoorW.PrintWords Go.Proofs.YtojcbknclfamhaaGreatDoorW.PrintLast Go.Proofs.YtojcbknclfamhaaGreatDoorW.PrintMore
open Go.Shelf Go.Lib Go.Sort
set_option linter.unusedVariables false
set_option linter.unusedSimpArgs false
structure Globs (w : World) : Prop where
  tab : Lib.TabIs Tryz.prog w "internal/strconv.uint64pow10" .u64 Lib.pow10Tab
  syn : ∃ ev, w.cell? ⟨0, 0, none⟩ = some ev ∧ (ev = .nilIface ∨ ∃ te pe, ev = .iface te pe)
  rng : ∃ ev, w.cell? ⟨1, 0, none⟩ = some ev ∧ (ev = .nilIface ∨ ∃ te pe, ev = .iface te pe)
end Go.Proofs.YtojcbknclfamhaaGreatDoor.A
namespace Go.Proofs.YtojcbknclfamhaaGreatDoor.A
open Go.RowKit Go.Proofs.YtojcbknclfamhaaGreatDoorW.PrintWords Go.Proofs.YtojcbknclfamhaaGreatDoorW.PrintLast Go.Proofs.YtojcbknclfamhaaGreatDoorW.PrintMore
open Go.Lib Go.ChangeShapes Go.WideShapes
set_option linter.unusedVariables false
set_option linter.unusedSimpArgs false
theorem iface_cell {P : Program} {W : World} {n : String} {d : DataW Unit} {r : List (String × DataW Unit)} {g : Nat} {ti : TypeId} {ms : Array (String × TypeId)} (h : laidMet P ((n, d) :: r) W)
    (hg : P.globalNamed n = some g) (ht : (P.globals[g]?).map (·.type) = some ti) (hi : P.underlying ti = some (.interface ms)) : ∃ ev, W.cell? ⟨g, 0, none⟩ = some ev ∧ (ev = .nilIface ∨ ∃ te pe, ev = .iface te pe) := by
  obtain ⟨ps, ⟨g0, t0, cs0, f0, p0, q0, hg0, ht0, hv0, hd0, _, e0⟩, _, hrows⟩ := h
  obtain rfl := Option.some.inj (hg.symm.trans hg0)
  obtain rfl := Option.some.inj (ht.symm.trans ht0)
  have hc := World.var?_cell hg0 hv0 0
  obtain ⟨l0⟩ := cs0
  cases f0 with
  | zero => simp [DataW.trod] at hd0
  | succ m =>
    unfold DataW.trod at hd0
    rw [hi] at hd0
    split at hd0 <;> simp_all
def laid5 : List (String × DataW Unit) := Rows.journalReadsRow.laid
theorem Globs.laid {W : World} (h : laidMetH Tryz.prog laid5 W) : Globs W := by
  rw [MakeChecks.laidMetH_plain _ _ _ (by kernel_rfl)] at h
  have h3 := laidMet.tail (laidMet.tail h)
  have h4 := laidMet.tail h3
  have h5 := laidMet.tail h4
  refine ⟨Lib.tabIs_of_head (rest := [("strconv.ErrRange", Rows.laid_strconv_ErrRange), ("strconv.ErrSyntax", Rows.laid_strconv_ErrSyntax)]) (g := 2) (t := 181) (e := 57) (n := 20) (by kernel_rfl) (by kernel_rfl) (by kernel_rfl) (by kernel_rfl) (by kernel_rfl) (by kernel_rfl) h3, ?_, ?_⟩
  · exact iface_cell (g := 0) (ti := 69) h5 (by kernel_rfl) (by kernel_rfl) Tryz.underlying69
  · exact iface_cell (g := 1) (ti := 69) h4 (by kernel_rfl) (by kernel_rfl) Tryz.underlying69
theorem door_met (os : Os) (args : Array Value) : laidMet Tryz.prog laid5 ((World.doorLaid Tryz.prog 62 os).forCall (fun _ _ => 0) ⟨#[], args, []⟩).memory :=
  laidMet_of_run' 8 (by kernel_rfl) (by kernel_rfl)
end Go.Proofs.YtojcbknclfamhaaGreatDoor.A
namespace Go.Proofs.YtojcbknclfamhaaGreatDoor.A
open Go.RowKit Go.Proofs.YtojcbknclfamhaaGreatDoorW.PrintWords Go.Proofs.YtojcbknclfamhaaGreatDoorW.PrintLast Go.Proofs.YtojcbknclfamhaaGreatDoorW.PrintMore
open Go.ChangeShapes Go.WideShapes Go.ChangeAt
set_option linter.unusedVariables false
set_option linter.unusedSimpArgs false
def RdAt {H α : Type} (enc : TypeId × Value → H) (P : Program) (W : World) (t : TypeId) (d : Kd α) (Q : α → DataW H → Prop) (n : Nat) : Prop :=
  ∀ (base : Nat) (sp : Nat → Bool) (hd : Bool) (cs : List Value) (x : DataW H × List MemPlace), DataW.trod enc P W base sp hd n t cs = some x → ∃ y, d.K W y cs ∧ Q y x.1
theorem list_of {α : Type} {p : Nat → α → Prop} : ∀ n, (∀ i, i < n → ∃ y, p i y) → ∃ ys : List α, ys.length = n ∧ ∀ i y, ys[i]? = some y → p i y
  | 0, _ => ⟨[], rfl, by simp⟩
  | n + 1, h => by
    obtain ⟨ys, hl, hp⟩ := list_of n (fun i hi => h i (by omega))
    obtain ⟨y, hy⟩ := h n (by omega)
    refine ⟨ys ++ [y], by simp [hl], fun i z hz => ?_⟩
    by_cases hi : i < ys.length
    · rw [List.getElem?_append_left hi] at hz
      exact hp i z hz
    · have hi2 : i < (ys ++ [y]).length := (List.getElem?_eq_some_iff.1 hz).1
      have : i = n := by simp at hi2; omega
      subst this
      rw [List.getElem?_append_right (by omega), hl] at hz
      simp at hz
      subst hz
      exact hy
section
variable {H : Type} {enc : TypeId × Value → H} {P : Program} {W : World} {t : TypeId} {n : Nat}
theorem RdAt.weaken {α : Type} {d : Kd α} {Q Q' : α → DataW H → Prop} (h : RdAt enc P W t d Q n) (hq : ∀ y x, Q y x → Q' y x) : RdAt enc P W t d Q' n := fun base sp hd cs x hx => by
  obtain ⟨y, hk, hy⟩ := h base sp hd cs x hx
  exact ⟨y, hk, hq _ _ hy⟩
theorem rd_int {k : IntKind} (ht : P.underlying t = some (.int k)) : RdAt enc P W t (Kd.int k) (fun y x => (Lit.int k y).wf = true ∧ x = .lit (.int k y)) n := fun base sp hd cs x hx => by
  obtain ⟨m, rfl, hx, hw⟩ := DataW.trod_int ht hx
  exact ⟨m, rfl, hw, by rw [hx]⟩
theorem rd_bool (ht : P.underlying t = some .bool) : RdAt enc P W t Kd.bool (fun y x => x = .lit (.bool y)) n := fun base sp hd cs x hx => by
  obtain ⟨m, rfl, hx2⟩ := DataW.trod_bool ht hx
  exact ⟨m, rfl, by rw [hx2]⟩
theorem rd_string (ht : P.underlying t = some .string) : RdAt enc P W t Kd.string (fun y x => y.size ≤ maxLen ∧ x = .lit (.string y.data.toList)) n := fun base sp hd cs x hx => by
  obtain ⟨m, rfl, hx, hw⟩ := DataW.trod_string ht hx
  exact ⟨m, rfl, hw, by rw [hx]⟩
def AllQ {H α : Type} (Q : α → DataW H → Prop) (ys : List α) (x : DataW H) : Prop :=
  (ys = [] ∧ x = .nil) ∨ ∃ ds rest, x = .slice ds rest ∧ ds.length = ys.length ∧ ys.length ≤ maxLen ∧ ∀ (i : Nat) y z, ys[i]? = some y → ds[i]? = some z → Q y z
theorem cells_at {a : Addr} {base m : Nat} {cs : List Value} (h : W.cells? base a m = some cs) : cs.length = m ∧ ∀ (i : Nat) u, cs[i]? = some u → W.cell? (a.add i) = some u := by
  obtain ⟨_, hl, hc⟩ := World.cells?_some h
  refine ⟨hl, fun i u hu => ?_⟩
  have hi : i < m := by have := (List.getElem?_eq_some_iff.1 hu).1; omega
  rw [hc i hi]
  exact hu
theorem rd_slice {α : Type} {d : Kd α} {e : TypeId} {Q : α → DataW H → Prop} (q : Nat) (ht : P.underlying t = some (.slice e)) (hc : P.cellsOf e = d.sz) (h : ∀ m, m < n → RdAt enc P W e d Q m) :
    RdAt enc P W t (Kd.slice q d) (AllQ Q) n := fun base sp hd cs x hx => by
  rcases DataW.trod_slice ht hx with ⟨rfl, rfl⟩ | ⟨a, len, cap, elems, rest, m, hm, rfl, rfl, hb, hl, hmx, hlen, hel, _, _⟩
  · exact ⟨[], ⟨none, 0, rfl, Nat.le_refl _, ⟨rfl, by simp, fun h0 => absurd h0 (by simp)⟩⟩, .inl ⟨rfl, rfl⟩⟩
  · obtain ⟨ys, hys, hp⟩ := list_of (p := fun i y => ∃ cs', W.cells? base (a.add (i * P.cellsOf e)) (P.cellsOf e) = some cs' ∧ d.K W y cs' ∧ ∀ z, elems[i]? = some z → Q y z.1) len (fun i hi => by
      have hk := hel i hi
      rw [List.getElem?_eq_getElem (by omega)] at hk
      obtain ⟨cs', h1, h2⟩ := Option.bind_eq_some_iff.1 hk
      obtain ⟨y, hy, hq⟩ := h m (by omega) _ _ _ _ _ h2
      refine ⟨y, cs', h1, hy, fun z hz => ?_⟩
      rw [List.getElem?_eq_getElem (by omega)] at hz
      cases hz
      exact hq)
    refine ⟨ys, ⟨some a, cap, by rw [hys], by omega, ⟨rfl, by unfold maxLen at hmx; omega, fun _ => ⟨a, rfl, fun j p hj => ?_⟩⟩⟩, .inr ⟨_, _, rfl, by simp [hys, hlen], by omega, fun i y z hy hz => ?_⟩⟩
    · obtain ⟨cs', h1, h2, _⟩ := hp j p hj
      obtain ⟨h3, h4⟩ := cells_at h1
      refine ⟨cs', by rw [h3, hc], h2, fun i u hu => ?_⟩
      have := h4 i u hu
      rw [Go.Deep.add_add, hc] at this
      exact this
    · obtain ⟨cs', _, _, hq⟩ := hp i y hy
      rw [List.getElem?_map] at hz
      cases hz2 : elems[i]? with
      | none => rw [hz2] at hz; simp at hz
      | some w => rw [hz2] at hz; simp at hz; subst hz; exact hq w hz2
theorem rd_struct2 {α β : Type} {d0 : Kd α} {d1 : Kd β} {Q0 : α → DataW H → Prop} {Q1 : β → DataW H → Prop} {f0 f1 : Field} (ht : P.underlying t = some (.struct #[f0, f1]))
    (o0 : f0.offset = 0) (o1 : f1.offset = d0.sz) (c0 : P.cellsOf f0.type = d0.sz) (c1 : P.cellsOf f1.type = d1.sz) (hc : P.cellsOf t = d0.sz + d1.sz)
    (h0 : ∀ m, m < n → RdAt enc P W f0.type d0 Q0 m) (h1 : ∀ m, m < n → RdAt enc P W f1.type d1 Q1 m) :
    RdAt enc P W t (Kd.pair d0 d1) (fun y x => ∃ x0 x1, x = .agg [x0, x1] ∧ Q0 y.1 x0 ∧ Q1 y.2 x1) n := fun base sp hd cs x hx => by
  obtain ⟨xs, m, hm, rfl, hl, hlen, hf⟩ := DataW.trod_struct ht hx
  match xs, hlen with
  | [y0, y1], _ =>
    have e0 := hf 0 f0 rfl
    have e1 := hf 1 f1 rfl
    simp only [o0, o1, c0, c1, List.drop_zero] at e0 e1
    obtain ⟨z0, k0, q0⟩ := h0 m (by omega) _ _ _ _ _ e0
    obtain ⟨z1, k1, q1⟩ := h1 m (by omega) _ _ _ _ _ e1
    refine ⟨(z0, z1), ⟨cs.take d0.sz, cs.drop d0.sz, (List.take_append_drop _ _).symm, k0, ?_⟩, _, _, rfl, q0, q1⟩
    rwa [List.take_of_length_le (by simp; omega)] at k1
theorem rd_iso {α β : Type} {d : Kd α} {Q : α → DataW H → Prop} (f : β → α) (g : α → β) (hg : ∀ a, f (g a) = a) (h : RdAt enc P W t d Q n) : RdAt enc P W t (Kd.iso d f) (fun y x => Q (f y) x) n := fun base sp hd cs x hx => by
  obtain ⟨y, hk, hq⟩ := h base sp hd cs x hx
  refine ⟨g y, ?_, ?_⟩
  · show d.K W (f (g y)) cs
    rw [hg]; exact hk
  · show Q (f (g y)) x.1
    rw [hg]; exact hq
theorem arg_slice {α : Type} {d : Kd α} {e : TypeId} {Q : α → DataW H → Prop} {r : Reach} {b0 base : Nat} {sp : Nat → Bool} {hd : Bool} {v : Value} {x : DataW H} {p : List MemPlace} (ht : P.underlying t = some (.slice e)) (hc : P.cellsOf e = d.sz) (h : ∀ m, RdAt enc P W e d Q m)
    (hv : Value.okWide P W r b0 t v) (hx : DataW.Trod enc P W base sp hd t v x p) : ∃ A c, ∃ ys : List α, v = .slice A ys.length c ∧ ys.length ≤ c ∧ Kd.C d W A ys.length ys ∧ AllQ Q ys x := by
  obtain ⟨a, len, cap, rfl⟩ := okWide_slice ht hv
  obtain ⟨n, hn⟩ := hx
  obtain ⟨ys, hk, hq⟩ := rd_slice 0 ht hc (fun m _ => h m) (n := n) _ _ _ _ _ hn
  obtain ⟨A, c, e1, hl, hC⟩ := hk
  simp [Value.cells] at e1
  obtain ⟨rfl, rfl, rfl⟩ := e1
  exact ⟨a, cap, ys, rfl, hl, hC, hq⟩
end
end Go.Proofs.YtojcbknclfamhaaGreatDoor.A
namespace Go.Proofs.YtojcbknclfamhaaGreatDoor.A
open Go.RowKit Go.Proofs.YtojcbknclfamhaaGreatDoorW.PrintWords Go.Proofs.YtojcbknclfamhaaGreatDoorW.PrintLast Go.Proofs.YtojcbknclfamhaaGreatDoorW.PrintMore
open Go.ChangeShapes Go.WideShapes Go.ChangeAt
set_option linter.unusedVariables false
set_option linter.unusedSimpArgs false
section
variable {H : Type} {enc : TypeId × Value → H} {W : World} {n : Nat}
def QCol {H : Type} (y : S44) (x : DataW H) : Prop := True
theorem rdColumn : RdAt enc Tryz.prog W 44 k44 QCol n :=
  (rd_iso (fun x : S44 => (x.f0, x.f1)) (fun a => ⟨a.1, a.2⟩) (fun _ => rfl) (rd_struct2 Tryz.underlying44 rfl rfl (by kernel_rfl) (by kernel_rfl) (by kernel_rfl)
    (fun _ _ => rd_int Tryz.underlying42) (fun _ _ => rd_bool Tryz.underlying4))).weaken fun y x h => trivial
end
theorem bulk_pos {H : Type} (d : DataW H) : 1 ≤ Rows.uptoBulk d := by
  cases d with
  | lit x => cases x <;> simp [Rows.uptoBulk]
  | _ => simp [Rows.uptoBulk]
theorem bulk_len {H : Type} : ∀ ds : List (DataW H), ds.length ≤ Rows.uptoBulkAll ds
  | [] => Nat.zero_le _
  | d :: ds => by
    have h1 := bulk_pos d
    have h2 := bulk_len ds
    rw [List.length_cons, Rows.uptoBulkAll]
    omega
theorem allq_bulk {H α : Type} {Q : α → DataW H → Prop} {ys : List α} {x : DataW H} (h : AllQ Q ys x) : ys.length ≤ Rows.uptoBulk x := by
  rcases h with ⟨rfl, _⟩ | ⟨ds, rest, rfl, hl, _, _⟩
  · exact Nat.zero_le _
  · have := bulk_len ds
    rw [Rows.uptoBulk]
    omega
theorem bulk_mem {H : Type} {z : DataW H} : ∀ {ds : List (DataW H)}, z ∈ ds → Rows.uptoBulk z ≤ Rows.uptoBulkAll ds
  | d :: ds, h => by
    rw [Rows.uptoBulkAll]
    rcases List.mem_cons.1 h with rfl | h
    · omega
    · have := bulk_mem h
      omega
theorem allq_strs {H : Type} {ys : List ByteArray} {x : DataW H} (h : AllQ (fun (y : ByteArray) (x : DataW H) => y.size ≤ maxLen ∧ x = .lit (.string y.data.toList)) ys x) : ∀ t ∈ ys, t.size ≤ Rows.uptoBulk x := fun t ht => by
  rcases h with ⟨rfl, _⟩ | ⟨ds, rest, rfl, hl, _, hq⟩
  · cases ht
  · obtain ⟨i, hi, rfl⟩ := List.mem_iff_getElem.1 ht
    have hi2 : i < ds.length := by omega
    obtain ⟨-, hz⟩ := hq i _ _ (List.getElem?_eq_getElem hi) (List.getElem?_eq_getElem hi2)
    have := bulk_mem (List.getElem_mem hi2)
    rw [hz] at this
    simp only [Rows.uptoBulk] at this ⊢
    have hlen : (ys[i]).data.toList.length = (ys[i]).size := rfl
    omega
theorem small_bulk {H : Type} {ds : List (DataW H)} (h : Rows.uptoSmall H ds = true) : Rows.uptoBulkAll ds ≤ 1048576 := of_decide_eq_true h
end Go.Proofs.YtojcbknclfamhaaGreatDoor.A
