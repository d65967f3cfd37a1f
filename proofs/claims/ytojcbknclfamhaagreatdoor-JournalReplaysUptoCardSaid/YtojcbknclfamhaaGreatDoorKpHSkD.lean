/- The order of keys; a deed put into a sorted list: plain Lean. · journal.Replay: what segments come to. -/
import Derived.Test.YtojcbknclfamhaaGreatDoorKpAx0
import Derived.Test.YtojcbknclfamhaaGreatDoorKpHSkA
import Derived.Test.YtojcbknclfamhaaGreatDoorKpAx7
import Derived.Test.YtojcbknclfamhaaGreatDoorKpHSkB
import Derived.Test.YtojcbknclfamhaaGreatDoorKpHSkC
namespace Go.Proofs.YtojcbknclfamhaaGreatDoor.A
open Go.RowKit Go.Proofs.YtojcbknclfamhaaGreatDoorW.PrintWords Go.Proofs.YtojcbknclfamhaaGreatDoorW.PrintLast Go.Proofs.YtojcbknclfamhaaGreatDoorW.PrintMore
set_option linter.unusedVariables false
set_option linter.unusedSimpArgs false
theorem bytesLess_eq : ∀ (x y : List UInt8), Op.bytesLess x y = decide (x < y)
  | [], [] => by simp [Op.bytesLess]
  | _ :: _, [] => by simp [Op.bytesLess]
  | [], _ :: _ => by simp [Op.bytesLess]
  | a :: x, b :: y => by
    rw [Op.bytesLess, bytesLess_eq x y, Bool.eq_iff_iff]
    simp [List.cons_lt_cons_iff]
def cmpS (a b : ByteArray) : Int := if Op.bytesLess a.toList b.toList = true then -1 else if a.toList = b.toList then 0 else 1
theorem or_two (k : Nat) (a b : Int) : cmp_Or_int.f (k + 3) [a, b] = some (if a = 0 then b else a) := by
  have w1 : wrap64 ((0 : Int) + 1) = 1 := by unfold wrap64; omega
  have w2 : wrap64 ((1 : Int) + 1) = 2 := by unfold wrap64; omega
  have r0 : rd [a, b] 0 = a := rfl
  have r1 : rd [a, b] 1 = b := rfl
  simp only [cmp_Or_int.f, cmp_Or_int.l0, List.length_cons, List.length_nil, w1, w2, r0, r1]
  by_cases h : a = 0
  · by_cases h2 : b = 0 <;> simp [h, h2]
  · simp [h]
theorem cmpV_eq (a b : S46) : cmpV a b = if a.f0 = true then (if b.f0 = true then 0 else -1) else if b.f0 = true then 1 else if a.f1 < b.f1 then -1 else if b.f1 < a.f1 then 1 else cmpS a.f2 b.f2 := by
  obtain ⟨a0, a1, a2⟩ := a
  obtain ⟨b0, b1, b2⟩ := b
  unfold cmpV kinds_Compare.f
  cases a0 <;> cases b0 <;> simp only [kinds_Compare.j0, if_true, if_false, Bool.false_eq_true, Option.getD_some]
  simp only [cmp_Compare_int64.f, cmp_isNaN_int64.f, cmp_Compare_string.f, Option.bind_some, bne_self_eq_false, Bool.false_eq_true, if_false]
  by_cases h1 : a1 < b1
  · rw [if_pos h1]
    simp only [Option.bind_some, or_two, if_pos h1]
    simp
  · rw [if_neg h1, if_neg h1]
    by_cases h2 : a1 > b1
    · rw [if_pos h2, if_pos h2]
      simp only [Option.bind_some, or_two]
      simp
    · rw [if_neg h2, if_neg h2]
      simp only [Option.bind_some, or_two, if_true]
      rfl
theorem cmpS_neg (a b : ByteArray) : cmpS a b < 0 ↔ a.toList < b.toList := by
  unfold cmpS
  rw [bytesLess_eq]
  by_cases h : a.toList < b.toList
  · simp [h]
  · rw [if_neg (by simpa using h)]
    by_cases e : a.toList = b.toList
    · rw [if_pos e]; exact ⟨fun h2 => absurd h2 (by decide), fun h2 => absurd h2 h⟩
    · rw [if_neg e]; exact ⟨fun h2 => absurd h2 (by decide), fun h2 => absurd h2 h⟩
theorem cmpS_zero (a b : ByteArray) : cmpS a b = 0 ↔ a.toList = b.toList := by
  unfold cmpS
  rw [bytesLess_eq]
  by_cases h : a.toList < b.toList
  · simp only [h, decide_true, if_true]
    constructor
    · intro h2; exact absurd h2 (by decide)
    · intro e; rw [e] at h; exact absurd h (List.lt_irrefl _)
  · by_cases e : a.toList = b.toList <;> simp [h, e]
def Lt (a b : S46) : Prop := (a.f0 = true ∧ b.f0 = false) ∨ (a.f0 = false ∧ b.f0 = false ∧ (a.f1 < b.f1 ∨ (a.f1 = b.f1 ∧ a.f2.toList < b.f2.toList)))
def Eqv (a b : S46) : Prop := a.f0 = b.f0 ∧ (a.f0 = false → a.f1 = b.f1 ∧ a.f2.toList = b.f2.toList)
theorem cmpV_neg (a b : S46) : cmpV a b < 0 ↔ Lt a b := by
  rw [cmpV_eq]
  unfold Lt
  have hs := cmpS_neg a.f2 b.f2
  cases a.f0 <;> cases b.f0 <;> simp
  by_cases h1 : a.f1 < b.f1
  · simp [h1]
  · by_cases h2 : b.f1 < a.f1
    · simp [h1, h2]; omega
    · have e : a.f1 = b.f1 := by omega
      simp only [e, Int.lt_irrefl, if_false, false_or, true_and]
      exact hs
theorem cmpV_zero (a b : S46) : cmpV a b = 0 ↔ Eqv a b := by
  rw [cmpV_eq]
  unfold Eqv
  have hs := cmpS_zero a.f2 b.f2
  cases a.f0 <;> cases b.f0 <;> simp
  by_cases h1 : a.f1 < b.f1
  · simp [h1]; omega
  · by_cases h2 : b.f1 < a.f1
    · simp [h1, h2]; omega
    · have e : a.f1 = b.f1 := by omega
      simp only [e, Int.lt_irrefl, if_false, true_and]
      exact hs
theorem Lt.trans {a b c : S46} (h : Lt a b) (k : Lt b c) : Lt a c := by
  unfold Lt at *
  rcases h with ⟨h1, h2⟩ | ⟨h1, h2, h3⟩ <;> rcases k with ⟨k1, k2⟩ | ⟨k1, k2, k3⟩
  · rw [h2] at k1; cases k1
  · exact .inl ⟨h1, k2⟩
  · rw [h2] at k1; cases k1
  · refine .inr ⟨h1, k2, ?_⟩
    rcases h3 with h3 | ⟨h3, h4⟩ <;> rcases k3 with k3 | ⟨k3, k4⟩
    · exact .inl (by omega)
    · exact .inl (by omega)
    · exact .inl (by omega)
    · exact .inr ⟨by omega, List.lt_trans h4 k4⟩
theorem Lt.irrefl (a : S46) : ¬ Lt a a := by
  unfold Lt
  rintro (⟨h1, h2⟩ | ⟨h1, h2, h3 | ⟨h3, h4⟩⟩)
  · rw [h1] at h2; cases h2
  · omega
  · exact List.lt_irrefl _ h4
theorem Eqv.lt_left {a b c : S46} (h : Eqv a b) : Lt a c ↔ Lt b c := by
  obtain ⟨h1, h2⟩ := h
  unfold Lt
  cases ha : a.f0
  · obtain ⟨e1, e2⟩ := h2 ha
    rw [← h1, ha, e1, e2]
  · rw [← h1, ha]
    simp
theorem Eqv.lt_right {a b c : S46} (h : Eqv a b) : Lt c a ↔ Lt c b := by
  obtain ⟨h1, h2⟩ := h
  unfold Lt
  cases ha : a.f0
  · obtain ⟨e1, e2⟩ := h2 ha
    rw [← h1, ha, e1, e2]
  · rw [← h1, ha]
    simp
theorem Eqv.symm {a b : S46} (h : Eqv a b) : Eqv b a := ⟨h.1.symm, fun e => by have := h.2 (h.1.trans e); exact ⟨this.1.symm, this.2.symm⟩⟩
theorem trichotomy (a b : S46) : Lt a b ∨ Eqv a b ∨ Lt b a := by
  unfold Lt Eqv
  cases ha : a.f0 <;> cases hb : b.f0 <;> simp
  by_cases h1 : a.f1 < b.f1
  · exact .inl (.inl h1)
  · by_cases h2 : b.f1 < a.f1
    · exact .inr (.inr (.inl h2))
    · have e : a.f1 = b.f1 := by omega
      rcases Classical.em (a.f2.toList < b.f2.toList) with h | h
      · exact .inl (.inr ⟨e, h⟩)
      · rcases Classical.em (b.f2.toList < a.f2.toList) with h3 | h3
        · exact .inr (.inr (.inr ⟨e.symm, h3⟩))
        · exact .inr (.inl ⟨e, List.le_antisymm (by simpa using h3) (by simpa using h)⟩)
def putL : List S26 → S26 → List S26
  | [], d => [d]
  | x :: xs, d => if cmpV (keyOf x) (keyOf d) < 0 then x :: putL xs d else if cmpV (keyOf x) (keyOf d) = 0 then d :: xs else d :: x :: xs
def Srt (l : List S26) : Prop := l.Pairwise (fun x y => Lt (keyOf x) (keyOf y))
def rank : List S26 → S26 → Nat
  | [], _ => 0
  | x :: xs, d => if cmpV (keyOf x) (keyOf d) < 0 then rank xs d + 1 else 0
theorem rank_le : ∀ (l : List S26) (d : S26), rank l d ≤ l.length
  | [], _ => Nat.le_refl _
  | x :: xs, d => by unfold rank; split; simpa using rank_le xs d; simp
theorem rank_iff : ∀ {l : List S26} (h : Srt l) (d : S26) (q : Nat) (hq : q < l.length), (cmpV (keyOf l[q]) (keyOf d) < 0 ↔ q < rank l d)
  | x :: xs, h, d, 0, hq => by
    unfold rank
    by_cases hx : cmpV (keyOf x) (keyOf d) < 0
    · simp [hx]
    · simp [hx]
  | x :: xs, h, d, q + 1, hq => by
    have hp := List.pairwise_cons.1 h
    have hq' : q < xs.length := by simpa using hq
    unfold rank
    by_cases hx : cmpV (keyOf x) (keyOf d) < 0
    · rw [if_pos hx]
      have := rank_iff hp.2 d q hq'
      simp only [List.getElem_cons_succ]
      rw [this]
      omega
    · rw [if_neg hx]
      simp only [List.getElem_cons_succ]
      constructor
      · intro hlt
        exact absurd ((cmpV_neg _ _).2 ((hp.1 _ (List.getElem_mem hq')).trans ((cmpV_neg _ _).1 hlt))) hx
      · intro hlt; omega
theorem putL_eq : ∀ (l : List S26) (d : S26), putL l d = l.take (rank l d) ++ d :: (if (l[rank l d]?).any (fun x => decide (cmpV (keyOf x) (keyOf d) = 0)) = true then l.drop (rank l d + 1) else l.drop (rank l d))
  | [], d => by simp [putL, rank]
  | x :: xs, d => by
    unfold putL rank
    by_cases hx : cmpV (keyOf x) (keyOf d) < 0
    · rw [if_pos hx, if_pos hx, putL_eq xs d]
      simp
    · rw [if_neg hx, if_neg hx]
      by_cases h0 : cmpV (keyOf x) (keyOf d) = 0 <;> simp [h0]
theorem putL_mem : ∀ (l : List S26) (d y : S26), y ∈ putL l d → y = d ∨ y ∈ l
  | [], d, y, h => by simp [putL] at h; exact .inl h
  | x :: xs, d, y, h => by
    unfold putL at h
    split at h
    · rcases List.mem_cons.1 h with rfl | h
      · exact .inr (by simp)
      · rcases putL_mem xs d y h with h | h
        · exact .inl h
        · exact .inr (List.mem_cons_of_mem _ h)
    · split at h
      · rcases List.mem_cons.1 h with rfl | h
        · exact .inl rfl
        · exact .inr (List.mem_cons_of_mem _ h)
      · rcases List.mem_cons.1 h with rfl | h
        · exact .inl rfl
        · exact .inr h
theorem putL_srt : ∀ {l : List S26} (h : Srt l) (d : S26), Srt (putL l d)
  | [], _, d => by simp [putL, Srt]
  | x :: xs, h, d => by
    have hp := List.pairwise_cons.1 h
    unfold putL
    by_cases hx : cmpV (keyOf x) (keyOf d) < 0
    · rw [if_pos hx]
      refine List.pairwise_cons.2 ⟨fun y hy => ?_, putL_srt hp.2 d⟩
      rcases putL_mem xs d y hy with rfl | hy
      · exact (cmpV_neg _ _).1 hx
      · exact hp.1 y hy
    · rw [if_neg hx]
      by_cases h0 : cmpV (keyOf x) (keyOf d) = 0
      · rw [if_pos h0]
        refine List.pairwise_cons.2 ⟨fun y hy => ?_, hp.2⟩
        exact ((cmpV_zero _ _).1 h0).lt_left.1 (hp.1 y hy)
      · rw [if_neg h0]
        have hlt : Lt (keyOf d) (keyOf x) := by
          rcases trichotomy (keyOf d) (keyOf x) with h1 | h1 | h1
          · exact h1
          · exact absurd ((cmpV_zero _ _).2 h1.symm) h0
          · exact absurd ((cmpV_neg _ _).2 h1) hx
        refine List.pairwise_cons.2 ⟨fun y hy => ?_, h⟩
        rcases List.mem_cons.1 hy with rfl | hy
        · exact hlt
        · exact hlt.trans (hp.1 y hy)
end Go.Proofs.YtojcbknclfamhaaGreatDoor.A
namespace Go.Proofs.YtojcbknclfamhaaGreatDoor.A
open Go.RowKit Go.Proofs.YtojcbknclfamhaaGreatDoorW.PrintWords Go.Proofs.YtojcbknclfamhaaGreatDoorW.PrintLast Go.Proofs.YtojcbknclfamhaaGreatDoorW.PrintMore
set_option linter.unusedVariables false
set_option linter.unusedSimpArgs false
def putAll : List S26 → List S26 → Option (List S26)
  | ds, [] => some ds
  | ds, d :: rest => if 0 < d.f1.length ∧ d.f1.length * 32 ≤ 140737488355328 then putAll (putL ds d) rest else none
def replayGo (k : Nat) (s : List S44) : List S26 → List ByteArray → Option (List S26 × Int)
  | ds, [] => if (ds.length + 1) * 32 ≤ 140737488355328 then some (ds, 0) else none
  | ds, t :: ts => (journal_Read.f k s t).bind fun r => if r.2 = 0 then (putAll ds r.1).bind fun ds2 => replayGo k s ds2 ts else some ([], r.2)
def journal_Replay.f (k : Nat) (s : List S44) (ts : List ByteArray) : Option (List S26 × Int) := if ts.length ≤ 140737488355328 then replayGo k s [] ts else none
theorem R_keepT {α : Type} {d : Kd α} {e : Nat} {W W1 : World} {base : Nat} {ok : Nat → Prop} {V : Value} {x : List α} (hk : KeepT W W1) (hE : ∀ q, q ∈ e :: d.E → q ≠ 105 ∧ q ≠ 107) (h : d.R e W base ok V x) : d.R e W1 base ok V x := by
  refine Kd.R_mono (Kd.R_step (Kd.R_bound h) (fun k hk1 hlt => ?_)) (fun _ hk1 => hk1.1)
  obtain ⟨-, -, -, q, hq, cells, hcell⟩ := hk1
  rw [hcell]
  exact hk.2 k cells q _ hcell (hE q hq).1 (hE q hq).2
theorem R_len {α : Type} {d : Kd α} {e : Nat} {W : World} {base : Nat} {ok : Nat → Prop} {V : Value} {xs : List α} (h : d.R e W base ok V xs) : xs.length ≤ maxLen := by
  obtain ⟨inner, ho⟩ := Kd.R_own h
  rcases ho.2 with ⟨-, h0⟩ | ⟨g, cap, cur, -, -, -, h1, h2, -⟩
  · omega
  · omega
theorem put_list {l : List Nd} {ds : List S26} (hl : l.map (fun m => m.d) = ds) (d : S26) {l' : List Nd} (h : l'.map (fun n => n.d) = (l.take (rank ds d)).map (fun n => n.d) ++ (d :: (if (foundB l (rank ds d) (keyOf d)).isSome = true then (l.drop (rank ds d + 1)).map (fun n => n.d) else (l.drop (rank ds d)).map (fun n => n.d)))) : l'.map (fun n => n.d) = putL ds d := by
  subst hl
  rw [h, putL_eq, List.map_take, List.map_drop, List.map_drop]
  congr 2
  unfold foundB
  rw [List.getElem?_map]
  cases l[rank (l.map fun m => m.d) d]? with
  | none => simp
  | some m => by_cases h0 : cmpV (keyOf m.d) (keyOf d) = 0 <;> simp [h0]
def RepP (w : World) (r1 : List S26) (r2 : Int) (e : Ending) (w' : World) : Prop := ∃ v0_ : Value, e = .returned (.tuple #[v0_, .int .i64 r2]) ∧ Kd.S k26 26 w' w.heap.size (fun _ => True) v0_ r1 ∧ Below w.heap.size w w'
def Lst (w wr : World) (lb : Nat) (ds : List S26) : Prop := ∃ (l : List Nd) (seed cnt bytes : Int), Sk w wr lb l seed cnt bytes ∧ l.map (fun m => m.d) = ds ∧ (∀ m ∈ l, m.d.f1.length * 32 ≤ 140737488355328) ∧ Srt ds ∧ Below w.heap.size w wr
set_option maxHeartbeats 16000000 in
set_option maxRecDepth 100000 in
theorem replay_calls (k : Nat) (A0 : Option Addr) (c0 : Nat) (l0 : List S44) (A1 : Option Addr) (c1 : Nat) (l1 : List ByteArray) (r1 : List S26) (r2 : Int) (w : World) (hr0 : Kd.C k44 w A0 l0.length l0) (hc0 : l0.length ≤ c0) (hr1 : Kd.C Kd.string w A1 l1.length l1) (hc1 : l1.length ≤ c1) (h : journal_Replay.f k l0 l1 = some (r1, r2)) :
    Calls Tryz.prog 12 #[.slice A0 l0.length c0, .slice A1 l1.length c1] w (RepP w r1 r2) := by
  have hu28 := Tryz.underlying28
  have hu36 := Tryz.underlying26
  have hu43 := Tryz.underlying36
  have HR0 := Aside0.mk hr0; have HR1 := Aside0.mk hr1; have HC0 := Aside0.mk hc0; have HC1 := Aside0.mk hc1; have HLN : Aside0 (l1.length ≤ 140737488355328) := ⟨by
    unfold journal_Replay.f at h
    split at h
    · assumption
    · cases h⟩
  have HH : Aside0 (replayGo k l0 [] l1 = some (r1, r2)) := ⟨by
    unfold journal_Replay.f at h
    rw [if_pos HLN.out] at h
    exact h⟩
  clear hr0 hr1 hc0 hc1 h
  go_enter Tryz.func12, Tryz.ntmps12
  go_wp2_with fail
  refine (new.calls w w (Below.refl _ _)).mono ?_
  rintro e w1 ⟨lb, seed0, rfl, hS1, hb1⟩
  have HL : Aside0 (Lst w w1 lb []) := ⟨[], seed0, 0, 0, hS1, rfl, fun m hm => (by cases hm), List.Pairwise.nil, hb1⟩
  clear hS1 hb1
  go_upto_block 0 with fail
  go_wp2_with fail
  go_loopg [16] l1.length (fun gg s16 wr => ∃ (i : Nat) (ds : List S26), i ≤ l1.length ∧ l1.length - i ≤ gg ∧ s16 = .int .i64 (i : Int) ∧ Aside0 (Lst w wr lb ds) ∧ Aside0 (replayGo k l0 ds (l1.drop i) = some (r1, r2)))
  case atStart => exact ⟨0, [], by omega, by omega, rfl, HL, HH⟩
  case round =>
    clear HL HH
    rename World => wr
    obtain ⟨i, ds, hi, hgg, rfl, HL, HH⟩ := hrel
    by_cases hlt : i < l1.length
    · have hdrop : l1.drop i = l1[i] :: l1.drop (i + 1) := List.drop_eq_getElem_cons hlt
      have HH2 := Aside0.mk (show replayGo k l0 ds (l1[i] :: l1.drop (i + 1)) = some (r1, r2) by rw [← hdrop]; exact HH.out)
      have hbw : Below w.heap.size w wr := by obtain ⟨_, _, _, _, _, _, _, _, h⟩ := HL.out; exact h
      obtain ⟨ad, rfl, hx⟩ := Kd.at_string (Kd.C_below HR1.out hbw) (i : Int) (by omega) (by omega)
      rw [show rdOf ByteArray.empty l1 (i : Int) = l1[i] by simp [rdOf, List.getD, hlt], Int.toNat_natCast] at hx
      have HBW := Aside0.mk hbw
      have e1 : decide ((i : Int) < (l1.length : Int)) = true := decide_eq_true (by omega)
      have e2 : decide (i < l1.length) = true := decide_eq_true hlt
      have e3 : (0 ≤ (i : Int)) = True := eq_true (by omega)
      have e4 : ((i : Int) < (l1.length : Int)) = True := eq_true (by omega)
      have e4b : (i < l1.length) = True := eq_true hlt
      have e5 : IntKind.i64.wrap ((i : Int) + 1) = ((i + 1 : Nat) : Int) := by
        have := HLN.out
        rw [IntWalk.i64_in _ (by omega)]; rfl
      have hf : ∃ rd er, journal_Read.f k l0 l1[i] = some (rd, er) ∧ (if er = 0 then (putAll ds rd).bind fun ds2 => replayGo k l0 ds2 (l1.drop (i + 1)) else some ([], er)) = some (r1, r2) := by
        have h := HH2.out
        unfold replayGo at h
        obtain ⟨⟨rd, er⟩, h1, h2⟩ := Option.bind_eq_some_iff.1 h
        exact ⟨rd, er, h1, h2⟩
      obtain ⟨rd, er, hrd, hgo⟩ := hf
      have HRD := Aside0.mk hrd; have HGO := Aside0.mk hgo
      have HI := Aside0.mk (And.intro hlt hgg)
      generalize htx : l1[i] = tx at *
      clear hdrop HH HH2 hbw hrd hgo hi hgg hlt htx
      go_wp2_with fail
      refine (journal_Read.calls k A0 c0 l0 tx rd er wr (Kd.C_below HR0.out HBW.out) HC0.out HRD.out).mono ?_
      rintro e w2 ⟨V, rfl, hSd, hb2⟩
      have hRd := Kd.S_R hSd
      have hln := R_len hRd
      obtain ⟨A2, c2, rfl, hc2, -⟩ := Kd.R_reads hRd
      have HRW := Aside0.mk hRd; have HLD := Aside0.mk hln; have HC2 := Aside0.mk hc2
      have HL2 : Aside0 (Lst w w2 lb ds) := ⟨by obtain ⟨l, s, c, b, h1, h2, h3, h4, h5⟩ := HL.out; exact ⟨l, s, c, b, h1.below hb2, h2, h3, h4, h5.trans (hb2.mono h5.size)⟩⟩
      clear HL hSd hRd hln hc2 hx
      by_cases her : er = 0
      · subst her
        have hgo := HGO.out
        rw [if_pos rfl] at hgo
        obtain ⟨ds2, hp2, hrest⟩ := Option.bind_eq_some_iff.1 hgo
        have HP2 := Aside0.mk hp2; have HREST := Aside0.mk hrest
        clear hgo hp2 hrest HGO HRD
        go_upto_block 2 with fail
        go_wp2_with fail
        go_loopg [31] rd.length (fun gg s31 wr2 => ∃ (j : Nat) (dsj : List S26), j ≤ rd.length ∧ rd.length - j ≤ gg ∧ s31 = .int .i64 (j : Int) ∧ Aside0 (Lst w wr2 lb dsj) ∧ Aside0 (Kd.R k26 26 wr2 wr.heap.size (fun _ => True) (.slice A2 rd.length c2) rd) ∧ Aside0 (putAll dsj (rd.drop j) = some ds2))
        case atStart => exact ⟨0, ds, by omega, by omega, rfl, HL2, HRW, HP2⟩
        case round =>
          clear HL2 HRW HP2
          rename World => wr2
          obtain ⟨j, dsj, hj, hgg, rfl, HL, HRW, HP⟩ := hrel
          by_cases hlt : j < rd.length
          · have hdrop : rd.drop j = rd[j] :: rd.drop (j + 1) := List.drop_eq_getElem_cons hlt
            have hp := HP.out
            rw [hdrop] at hp
            unfold putAll at hp
            split at hp
            case isFalse => cases hp
            rename_i hrow
            obtain ⟨h1, h2⟩ := hrow
            obtain ⟨-, -, hC⟩ := Kd.R_reads' HRW.out
            obtain ⟨ad2, A3, c3, rfl, hx0, hx1, hc3, hC3⟩ := at_T26 hC (j : Int) (by omega) (by omega)
            have hrd : rd_T26 rd (j : Int) = rd[j] := by simp [rd_T26, List.getD, hlt]
            rw [hrd] at hx0 hx1 hc3 hC3
            rw [Int.toNat_natCast] at hx0 hx1
            have HP' := Aside0.mk hp; have H1 := Aside0.mk h1; have H2 := Aside0.mk h2; have HC3 := Aside0.mk hC3; have HLC := Aside0.mk hc3
            have HJ := Aside0.mk (And.intro hlt hgg)
            have e1 : decide ((j : Int) < (rd.length : Int)) = true := decide_eq_true (by omega)
            have e2 : decide (j < rd.length) = true := decide_eq_true hlt
            have e3 : (0 ≤ (j : Int)) = True := eq_true (by omega)
            have e4 : ((j : Int) < (rd.length : Int)) = True := eq_true (by omega)
            have e4b : (j < rd.length) = True := eq_true hlt
            have e5' : IntKind.i64.wrap ((j : Int) + 1) = ((j + 1 : Nat) : Int) := by
              have := HLD.out
              rw [IntWalk.i64_in _ (by simp only [maxLen] at this; omega)]; rfl
            generalize rd[j] = dj at *
            obtain ⟨g, row⟩ := dj
            clear hdrop hp h1 h2 hC hrd hc3 hC3 hj hgg hlt HP
            go_wp2_with fail
            obtain ⟨l, s, c, b, q1, q2, q3, q4, q5⟩ := HL.out
            have hb5 := below_alloc (Below.refl _ wr2) (.cells #[.bool g, .slice A3 row.length c3] 26)
            have hlen : dsj.length = l.length := by rw [← q2, List.length_map]
            have hkr : ∀ q (hq : q < l.length), (cmpV (keyOf l[q].d) (row.getD 0 z46) < 0 ↔ q < rank dsj ⟨g, row⟩) := fun q hq => by
              have h := rank_iff q4 ⟨g, row⟩ q (by omega)
              subst q2
              rw [List.getElem_map] at h
              exact h
            refine (put.calls w _ lb l s c b g A3 c3 row (rank dsj ⟨g, row⟩) (q1.below hb5) (q5.trans (hb5.mono q5.size)) (Kd.C_below HC3.out hb5) HLC.out H1.out H2.out q3 (by have := rank_le dsj ⟨g, row⟩; omega) hkr).mono ?_
            rintro e w6 ⟨rfl, l', s', c', b', p1, p2, p3, p4⟩
            have hpl := put_list q2 ⟨g, row⟩ p2
            have HL6 : Aside0 (Lst w w6 lb (putL dsj ⟨g, row⟩)) := ⟨l', s', c', b', p1, hpl, fun m hm => by
              have hm2 : m.d ∈ putL dsj ⟨g, row⟩ := by rw [← hpl]; exact List.mem_map.2 ⟨m, hm, rfl⟩
              rcases putL_mem _ _ _ hm2 with h | h
              · rw [h]; exact H2.out
              · rw [← q2] at h
                obtain ⟨m2, h2, h3⟩ := List.mem_map.1 h
                rw [← h3]; exact q3 m2 h2, putL_srt q4 _, p3⟩
            have HR6 : Aside0 (Kd.R k26 26 w6 wr.heap.size (fun _ => True) (.slice (some ad2) rd.length c2) rd) := ⟨R_keepT p4 (by decide) (Kd.R_below HRW.out hb5)⟩
            clear q1 q2 q3 q4 q5 hb5 hlen hkr p1 p2 p3 p4 hpl HL HRW
            go_wp2_with fail
            go_roundg (rd.length - (j + 1))
            case measure => have := HJ.out; omega
            case rel => exact ⟨j + 1, putL dsj ⟨g, row⟩, by have := HJ.out.1; omega, Nat.le_refl _, rfl, HL6, HR6, HP'⟩
          · have e1 : decide ((j : Int) < (rd.length : Int)) = false := decide_eq_false (by omega)
            have e2 : decide (j < rd.length) = false := decide_eq_false hlt
            have hd2 : dsj = ds2 := by
              have h := HP.out
              rw [List.drop_eq_nil_of_le (Nat.le_of_not_lt hlt)] at h
              simpa [putAll] using h
            subst hd2
            clear HP hgg
            go_wp2_with fail
            go_roundg (l1.length - (i + 1))
            case measure => have := HI.out; omega
            case rel => exact ⟨i + 1, dsj, by have := HI.out.1; omega, Nat.le_refl _, rfl, HL, HREST⟩
      · have hgo := HGO.out
        rw [if_neg her] at hgo
        obtain ⟨rfl, rfl⟩ : [] = r1 ∧ er = r2 := by simpa using hgo
        have e6 : (er == 0) = false := beq_eq_false_iff_ne.mpr her
        have e7 : (er != 0) = true := by simp [her]
        have HB2 : Aside0 (Below w.heap.size w w2) := ⟨by obtain ⟨_, _, _, _, _, _, _, _, h⟩ := HL2.out; exact h⟩
        clear hgo
        go_wp2_with fail
        go_ret2
        exact ⟨_, rfl, Kd.S_nil _ _ _ _ _, HB2.out⟩
    · have e1 : decide ((i : Int) < (l1.length : Int)) = false := decide_eq_false (by omega)
      have e2 : decide (i < l1.length) = false := decide_eq_false hlt
      have HH2 := Aside0.mk (show replayGo k l0 ds [] = some (r1, r2) by rw [← List.drop_eq_nil_of_le (Nat.le_of_not_lt hlt)]; exact HH.out)
      have hres : (ds.length + 1) * 32 ≤ 140737488355328 ∧ ds = r1 ∧ (0 : Int) = r2 := by
        have h := HH2.out
        unfold replayGo at h
        split at h
        · exact ⟨by assumption, by simpa using h⟩
        · cases h
      obtain ⟨hdl, rfl, rfl⟩ := hres
      have HDL := Aside0.mk hdl
      clear HH HH2 hgg hdl
      go_wp2_with fail
      obtain ⟨l, s, c, b, q1, q2, q3, q4, q5⟩ := HL.out
      refine (all.calls lb wr _ _ _ q1.blk).mono ?_
      rintro e w3 ⟨rfl, rfl⟩
      have HQ1 := Aside0.mk (q1.below (below_alloc (Below.refl _ wr) (.cells #[.pointer (some ⟨lb, 0, none⟩)] 102)))
      have HQ5 := Aside0.mk (q5.trans ((below_alloc (Below.refl _ wr) (.cells #[.pointer (some ⟨lb, 0, none⟩)] 102)).mono q5.size))
      have HQK := Aside0.mk (blk_new wr (.cells #[.pointer (some ⟨lb, 0, none⟩)] 102))
      have HQ2 := Aside0.mk q2; have HQ3 := Aside0.mk q3
      clear q1 q2 q3 q4 q5 HL
      go_wp2_with fail
      generalize wr.alloc (.cells #[.pointer (some ⟨lb, 0, none⟩)] 102) = w3 at *
      refine (collect.calls w w3 lb l s c b HQ1.out HQ3.out (by have := congrArg List.length HQ2.out; rw [List.length_map] at this; rw [this]; exact HDL.out) wr.heap.size HQK.out).mono ?_
      rintro e w4 ⟨V, rfl, hSv, hB4⟩
      have HSV := Aside0.mk hSv; have HB4 := Aside0.mk hB4
      clear hSv hB4
      go_wp2_with fail
      go_ret2
      exact ⟨_, rfl, by rw [← HQ2.out]; exact Kd.S_lower HSV.out HQ5.out.size, HQ5.out.trans (HB4.out.mono HQ5.out.size)⟩
theorem journal_Replay.calls (k : Nat) (A0 : Option Addr) (c0 : Nat) (l0 : List S44) (A1 : Option Addr) (c1 : Nat) (l1 : List ByteArray) (r1 : List S26) (r2 : Int) (w : World) (hr0 : Kd.C k44 w A0 l0.length l0) (hc0 : l0.length ≤ c0) (hr1 : Kd.C Kd.string w A1 l1.length l1) (hc1 : l1.length ≤ c1) (h : journal_Replay.f k l0 l1 = some (r1, r2)) :
    Calls Tryz.prog 12 #[.slice A0 l0.length c0, .slice A1 l1.length c1] w fun e w' => ∃ v0_ : Value, e = .returned (.tuple #[v0_, .int .i64 r2]) ∧ Kd.S k26 26 w' w.heap.size (fun _ => True) v0_ r1 ∧ Below w.heap.size w w' :=
  replay_calls k A0 c0 l0 A1 c1 l1 r1 r2 w hr0 hc0 hr1 hc1 h
end Go.Proofs.YtojcbknclfamhaaGreatDoor.A
