/- A disk with its blocks; what other blocks hold stays. Same of one and the same. -/
import Derived.Test.YtephblclhojffaaAx0
import Derived.Test.YtephblclhojffaaAx2
import Derived.Test.YtephblclhojffaaHAt
import Derived.Test.YtephblclhojffaaHCrashP
namespace Go.Proofs.Ytephblclhojffaa.A
open Go.RowKit Go.Proofs.YtephblclhojffaaW.PrintWords Go.Proofs.YtephblclhojffaaW.PrintLast Go.Proofs.YtephblclhojffaaW.PrintMore
open Go.Maps
set_option linter.unusedVariables false
set_option linter.unusedSimpArgs false

/-- A disk at db whose blocks are 'own', all of base on. -/
def AtO (pl : Bool) (base : Nat) (w0 w : World) (db : Nat) (own : Nat → Prop) (M : DM) : Prop := IsDisk pl w own db M ∧ (∀ k, own k → base ≤ k) ∧ Below base w0 w ∧ base ≤ w.heap.size
/-- Behind a call on the disk: its blocks are old ones of its own or new ones. -/
def Moved (pl : Bool) (base : Nat) (w0 w w' : World) (db : Nat) (own : Nat → Prop) (M' : DM) : Prop := ∃ own', AtO pl base w0 w' db own' M' ∧ (∀ k, own' k → own k ∨ w.heap.size ≤ k) ∧ Only w w' own
section
variable {pl : Bool} {w0 w w' : World} {own S : Nat → Prop} {base db : Nat} {M M' : DM} {n t : Nat}
theorem At.opened (h : At pl base w0 w db M) : ∃ own, AtO pl base w0 w db own M := by
  obtain ⟨own, dm, sm, chs, fb, sl, xs, hd, ho, hB, hs⟩ := h
  exact ⟨own, ⟨dm, sm, chs, fb, sl, xs, hd⟩, ho, hB, hs⟩
theorem AtO.at_ (h : AtO pl base w0 w db own M) : At pl base w0 w db M := At.mk h.1 h.2.1 h.2.2.1 h.2.2.2
theorem AtO.lt (h : AtO pl base w0 w db own M) : ∀ k, own k → k < w.heap.size := by
  obtain ⟨⟨dm, sm, chs, fb, sl, xs, hd⟩, _⟩ := h
  exact hd.lt
theorem AtO.bel (h : AtO pl base w0 w db own M) : Below base w0 w := h.2.2.1
theorem AtO.only (h : AtO pl base w0 w db own M) (hW : Only w w' S) (hS : ∀ k, S k → ¬ own k) (hb : ∀ k, S k → base ≤ k) : AtO pl base w0 w' db own M := by
  obtain ⟨⟨dm, sm, chs, fb, sl, xs, hd⟩, ho, hB, hs⟩ := h
  exact ⟨⟨dm, sm, chs, fb, sl, xs, hd.kept (fun k hk => hW.block k (hd.lt k hk) (fun e => hS k e hk)) (fun _ hk => hk) (fun k hk => Nat.lt_of_lt_of_le (hd.lt k hk) hW.size)⟩, ho, hB.trans (hW.below hb hs), Nat.le_trans hs hW.size⟩
theorem AtO.below (h : AtO pl base w0 w db own M) (hb : Below w.heap.size w w') : AtO pl base w0 w' db own M :=
  h.only (Only.of_below hb fun _ => False) (fun _ e => e.elim) (fun _ e => e.elim)
theorem AtO.went (h : AtO pl base w0 w db own M) (hW : Went pl w w' own db M') : Moved pl base w0 w w' db own M' := by
  obtain ⟨own', hd, h1, h2⟩ := hW
  exact ⟨own', ⟨hd, fun k hk => (h1 k hk).elim (h.2.1 k) (fun e => Nat.le_trans h.2.2.2 e), h.2.2.1.trans (h2.below h.2.1 h.2.2.2), Nat.le_trans h.2.2.2 h2.size⟩, h1, h2⟩
theorem AtO.kept (h : AtO pl w0.heap.size w0 w db own M) {A : Option Addr} {m : Nat} {l : List Int} (hk : Kd.C (Kd.int .i64) w0 A m l) : ∀ W, Only w W own → Kd.C (Kd.int .i64) W A m l :=
  fun W hW => Kd.C_below hk (h.2.2.1.trans (hW.below h.2.1 h.2.2.2))
theorem AtO.crash (h : AtO pl w0.heap.size w0 w db own M) (hI : Inv M n t) (hn : n < 500000) (ht : t ≤ 1099511627776) (x : Int) (A : Option Addr) (c : Nat) (keep : List Int) (hk : Kd.C (Kd.int .i64) w0 A keep.length keep) (hc : keep.length ≤ c) :
    Calls Try.prog 13 #[.pointer (some ⟨db, 0, none⟩), .int .i64 x, .slice A keep.length c] w fun e w' => e = .returned (.tuple #[]) ∧ Moved pl w0.heap.size w0 w w' db own (crashF M x keep) := by
  obtain ⟨dm, sm, chs, fb, sl, xs, hd⟩ := h.1
  refine (Crash.calls hd x A c keep (h.kept hk) hc hI.ok (by have h1 := hI.sdirL; have h2 := hI.cl; omega) (fun i => Nat.le_trans (hI.fits i) ht) hI.sure).mono ?_
  rintro e w' ⟨rfl, hW⟩
  exact ⟨rfl, h.went hW⟩
theorem AtO.does (h : AtO true w0.heap.size w0 w db own M) (hI : Inv M n t) (hn : n < 500000) (ht : t ≤ 1099511627776) (o : S24) (Ak : Option Addr) (ck : Nat) (hk : Kd.C (Kd.int .i64) w0 Ak o.f4.length o.f4) (hck : o.f4.length ≤ ck) (hs1 : o.f1.size ≤ maxLen) (hs2 : o.f2.size ≤ 1099511627776) :
    Calls Try.prog 19 #[.pointer (some ⟨db, 0, none⟩), .agg #[.int .i64 o.f0, .string o.f1, .string o.f2, .int .i64 o.f3, .slice Ak o.f4.length ck]] w fun e w' => e = .returned (.int .i64 (stepF M o).2) ∧ Moved true w0.heap.size w0 w w' db own (stepF M o).1 := by
  obtain ⟨dm, sm, chs, fb, sl, xs, hd⟩ := h.1
  refine (does.calls hd hI hn ht o Ak ck (h.kept hk) hck hs1 hs2).mono ?_
  rintro e w' ⟨rfl, hW⟩
  exact ⟨rfl, h.went hW⟩
theorem AtO.names (h : AtO pl base w0 w db own M) (hl : M.dir.length ≤ 1048576) :
    Calls Try.prog 15 #[.pointer (some ⟨db, 0, none⟩)] w fun e w' => ∃ v, e = .returned v ∧ w'.ownsRow w.heap.size 9 1 v (namesF M).length ((namesF M).map .string) ∧ Below w.heap.size w w' := by
  obtain ⟨dm, sm, chs, fb, sl, xs, hd⟩ := h.1
  exact Names.calls hd hl
/-- Strings in a block of no disk stay. -/
theorem row_only {v : Value} {e size m : Nat} {xs : List Value} (h : w.ownsRow base e size v m xs) (hW : Only w w' S) (hS : ∀ k, S k → k < base) : w'.ownsRow base e size v m xs := by
  obtain ⟨h1, h2 | ⟨g, cap, cur, h3, h4, h5, h6⟩⟩ := h
  · exact ⟨h1, .inl h2⟩
  · exact ⟨h1, .inr ⟨g, cap, cur, h3, h4, (hW.block g (List.getElem?_eq_some_iff.1 (by simpa using h5)).1 (fun e => by have := hS g e; omega)).trans h5, h6⟩⟩
theorem row_reads {v : Value} {l : List ByteArray} (h : w.ownsRow base 9 1 v l.length (l.map .string)) : ∃ A c, v = .slice A l.length c ∧ l.length ≤ c ∧ Kd.C Kd.string w A l.length l :=
  Kd.R_reads (Kd.R_of_own (ok := fun _ => True) (h1 := fun _ => rfl) h (fun _ _ => trivial))
end

/-! ### the laws' Same -/
theorem same_go (l : List ByteArray) (hl : l.length < 9223372036854775807) : ∀ (n k : Nat), k + n = l.length → tithebarnref05_Same.l0 (n + 1) l l (k : Int) = some true
  | 0, k, h => by
    unfold tithebarnref05_Same.l0
    rw [if_neg (by omega)]
  | n + 1, k, h => by
    unfold tithebarnref05_Same.l0
    rw [if_pos (by omega), if_pos (by omega), if_pos (by omega), if_pos rfl]
    have hw : wrap64 ((k : Int) + 1) = ((k + 1 : Nat) : Int) := by rw [Int.natCast_add]; unfold wrap64; omega
    rw [hw]
    exact same_go l hl n (k + 1) (by omega)
theorem same_plain (l : List ByteArray) (hl : l.length < 9223372036854775807) : tithebarnref05_Same.f (l.length + 1) l l = some true := by
  unfold tithebarnref05_Same.f
  rw [if_pos rfl]
  exact same_go l hl l.length 0 (by omega)
theorem same_calls (l : List ByteArray) (hl : l.length < 9223372036854775807) (A0 A1 : Option Addr) (c0 c1 : Nat) (w : World) (h0 : Kd.C Kd.string w A0 l.length l) (hc0 : l.length ≤ c0) (h1 : Kd.C Kd.string w A1 l.length l) (hc1 : l.length ≤ c1) :
    Calls Try.prog 24 #[.slice A0 l.length c0, .slice A1 l.length c1] w fun e w' => e = .returned (.bool true) ∧ Drawn0 w w' :=
  tithebarnref05_Same.calls (l.length + 1) A0 c0 l A1 c1 l true w h0 hc0 h1 hc1 (same_plain l hl)
end Go.Proofs.Ytephblclhojffaa.A
