/- Crash. -/
import Derived.Test.YtephblclhojffaaAx0
import Derived.Test.YtephblclhojffaaHCrash
import Derived.Outline
namespace Go.Proofs.Ytephblclhojffaa.A
open Go.RowKit Go.Proofs.YtephblclhojffaaW.PrintWords Go.Proofs.YtephblclhojffaaW.PrintLast Go.Proofs.YtephblclhojffaaW.PrintMore
open Go.Maps
set_option linter.unusedVariables false
set_option linter.unusedSimpArgs false

section
variable {pl : Bool} {w w' w2 w3 : World} {own own' own1 : Nat → Prop} {fb : List Nat} {db dm sm : Nat} {chs : Value} {sl xs : List Value} {M M' : DM}
theorem MapR.names_le {b : Nat} {d : Dir} (h : MapR w own fb b d) : ∀ p ∈ d, p.1.length ≤ maxLen := fun p hp => by
  have := strKeys_le h.owns Try.underlying9
  rw [strKeys_dirD] at this
  exact this _ (List.mem_map_of_mem hp)
theorem sz1 (W : World) : (sizeOf 5).run Try.prog W = .ok 1 W := by kernel_rfl
theorem sz66 (W : World) : (sizeOf 66).run Try.prog W = .ok 1 W := by kernel_rfl
theorem el57 : Try.prog.elem 57 = 5 := by kernel_rfl
theorem el62 : Try.prog.elem 62 = 66 := by kernel_rfl
theorem add0 (A : Option Addr) : A.map (·.add (0 * 1)) = A := by
  cases A with
  | none => rfl
  | some a => simp [Addr.add]
theorem cut_run (A : Option Addr) (len cap n : Nat) (hn : n ≤ cap) (W : World) : (Instr.slice 57 (.slice A len cap) none (some (.int .i64 (n : Int))) (some (.int .i64 (n : Int)))).run Try.prog W = .ok (.slice A n n) W := by
  have hu : Try.prog.underlying 57 = some (.slice (Try.prog.elem 57)) := by rw [el57]; exact Try.underlying57
  have h := run_slice_hm (P := Try.prog) W 57 A len cap hu .i64 .i64 (n : Int) (n : Int) (by omega) (by omega) (by omega)
  rw [h, el57, sz1]
  simp only [Result.andThen, sliced, Int.toNat_natCast, add0, Nat.sub_zero, ite_self]
theorem cutc_run (A : Option Addr) (len cap n : Nat) (hn : n ≤ cap) (W : World) : (Instr.slice 62 (.slice A len cap) none (some (.int .i64 (n : Int))) none).run Try.prog W = .ok (.slice A n cap) W := by
  have hu : Try.prog.underlying 62 = some (.slice (Try.prog.elem 62)) := by rw [el62]; exact Try.underlying62
  have h := run_slice_h (P := Try.prog) W 62 A len cap hu .i64 (n : Int) (by omega) (by omega)
  rw [h, el62, sz66]
  simp only [Result.andThen, sliced, Int.toNat_natCast, add0, Nat.sub_zero, ite_self]
theorem app_le (d : Dir) (c : Chg) : (c.app d).length ≤ d.length + 1 := by
  cases c with
  | mk k f => exact dPut_le d k f
  | ren a b =>
    show (match dGet d a with | some f => dDel (dPut d b f) a | none => d).length ≤ _
    cases dGet d a with
    | none => simp
    | some f =>
      have h1 := dDel_le (dPut d b f) a
      have h2 := dPut_le d b f
      show (dDel (dPut d b f) a).length ≤ _
      omega
  | rm a => have := dDel_le d a; show (dDel d a).length ≤ _; omega
theorem replay_le (cs : List Chg) : ∀ d : Dir, (replay d cs).length ≤ d.length + cs.length := by
  unfold replay
  induction cs with
  | nil => intro d; simp
  | cons c r ih =>
    intro d
    have h1 := ih (c.app d)
    have h2 := app_le d c
    simp only [List.foldl_cons, List.length_cons]
    omega
theorem replay_snoc (d : Dir) (cs : List Chg) (c : Chg) : replay d (cs ++ [c]) = c.app (replay d cs) := by unfold replay; rw [List.foldl_append]; rfl
/-- Every change may be made where its turn comes. -/
def ChgOk (M : DM) : Prop := ∀ (k : Nat) c, M.chg[k]? = some c → c.ok M.files.length (replay M.sdir (M.chg.take k))
/-- A file is cut. -/
theorem DiskR.cutFile (h : DiskR pl w own db dm sm chs fb sl xs M) {i b : Nat} {A : Option Addr} {L cap : Nat} (hb : fb[i]? = some b) (hv : sl[i]? = some (.slice A L cap)) (hblk : w.heap[b]? = some (.cells #[.slice A L cap, .int .i64 (M.files.getD i ([], 0)).2] 59 (0, 0)))
    (hsl : SlIs pl w own (.slice A L cap) (M.files.getD i ([], 0)).1) (nn : Nat) (hn : nn ≤ (M.files.getD i ([], 0)).1.length) :
    DiskR pl ((w.setCell ⟨b, 0, none⟩ (.slice A nn nn)).setCell ⟨b, 1, none⟩ (.int .i64 (nn : Int))) own db dm sm chs fb (sl.set i (.slice A nn nn)) xs { M with files := M.files.set i ((M.files.getD i ([], 0)).1.take nn, nn) } ∧ Only w ((w.setCell ⟨b, 0, none⟩ (.slice A nn nn)).setCell ⟨b, 1, none⟩ (.int .i64 (nn : Int))) own ∧
    ∀ k, k ≠ b → ((w.setCell ⟨b, 0, none⟩ (.slice A nn nn)).setCell ⟨b, 1, none⟩ (.int .i64 (nn : Int))).heap[k]? = w.heap[k]? := by
  have hob := h.files.ow i b hb
  have hkk : ∀ k, k ≠ b → ((w.setCell ⟨b, 0, none⟩ (.slice A nn nn)).setCell ⟨b, 1, none⟩ (.int .i64 (nn : Int))).heap[k]? = w.heap[k]? := fun k hk => (Below.heap_setCell _ _ _ _ hk).trans (Below.heap_setCell _ _ _ _ hk)
  refine ⟨?_, (Only.setCell (S := own) (a := ⟨b, 0, none⟩) hob _).trans (Only.setCell (S := own) (a := ⟨b, 1, none⟩) hob _) (fun _ _ h => h), hkk⟩
  refine h.fileSet hb hv (.slice A nn nn) ((M.files.getD i ([], 0)).1.take nn, nn) (fun _ h => h) (fun k hk => by have := h.lt k hk; simpa [World.setCell] using this) (fun k _ hk _ => hkk k hk) (heap_set (heap_set hblk 0 _) 1 _) ?_ (fun g hg => .inl (by cases A <;> simp [Value.ownBlock] at hg ⊢; exact hg))
  have htl : ((M.files.getD i ([], 0)).1.take nn).length = nn := by rw [List.length_take]; omega
  rcases hsl with ⟨h1, h2⟩ | ⟨g, cap', cur, fr, h1, h2, h3, h4, h5, h6, h7, h8⟩
  · simp only [Value.slice.injEq] at h1
    obtain ⟨rfl, rfl, rfl⟩ := h1
    have hn0 : nn = 0 := by rw [h2] at hn; simpa using hn
    subst hn0
    exact .inl ⟨rfl, by simp⟩
  · simp only [Value.slice.injEq] at h1
    obtain ⟨rfl, rfl, rfl⟩ := h1
    refine .inr ⟨g, nn, cur, fr, by rw [htl], h2, (hkk g (ne_shape h3 hblk (by decide))).trans h3, h4, by rw [htl]; exact Nat.le_refl _, by omega, by omega, ?_⟩
    rw [htl, List.map_take, ← h8, List.take_take, Nat.min_eq_left hn]
theorem cutAll_append (keep : List Int) : ∀ (a b : Dir) (i : Nat) (F : List (Bs × Nat)), cutAll keep i (a ++ b) F = cutAll keep (i + a.length) b (cutAll keep i a F)
  | [], b, i, F => rfl
  | p :: r, b, i, F => by
    show cutAll keep (i + 1) (r ++ b) _ = _
    rw [cutAll_append keep r b (i + 1)]
    show _ = cutAll keep (i + (r.length + 1)) b _
    rw [show i + 1 + r.length = i + (r.length + 1) by omega]
    rfl
theorem cutAll_succ (keep : List Int) (d : Dir) (k : Nat) (hk : k < d.length) (F : List (Bs × Nat)) : cutAll keep 0 (d.take (k + 1)) F = (cutAll keep 0 (d.take k) F).modify d[k].2 (cutF (moreF keep k)) := by
  rw [List.take_succ_eq_append_getElem hk, cutAll_append]
  have : (d.take k).length = k := by rw [List.length_take]; omega
  rw [this, Nat.zero_add]
  rfl
theorem cutAll_len (keep : List Int) : ∀ (d : Dir) (i : Nat) (F : List (Bs × Nat)), (cutAll keep i d F).length = F.length
  | [], i, F => rfl
  | p :: r, i, F => by
    show (cutAll keep (i + 1) r _).length = _
    rw [cutAll_len keep r]; simp
/-- No file's mark is beyond its bytes. -/
def SureOk (F : List (Bs × Nat)) : Prop := ∀ i, (F.getD i ([], 0)).2 ≤ (F.getD i ([], 0)).1.length
theorem cutF_ok (m : Nat) (f : Bs × Nat) (h : f.2 ≤ f.1.length) : (cutF m f).2 ≤ (cutF m f).1.length ∧ (cutF m f).1.length ≤ f.1.length := by
  unfold cutF
  simp only [List.length_take]
  omega
theorem getD_modify (F : List (Bs × Nat)) (i j : Nat) (g : Bs × Nat → Bs × Nat) (hi : i < F.length) : (F.modify i g).getD j ([], 0) = if i = j then g (F.getD j ([], 0)) else F.getD j ([], 0) := by
  rw [List.getD_eq_getElem?_getD, List.getD_eq_getElem?_getD, List.getElem?_modify]
  by_cases e : i = j
  · subst e; simp [hi]
  · simp [e]
theorem SureOk.modify {F : List (Bs × Nat)} (h : SureOk F) (i m : Nat) (hi : i < F.length) : SureOk (F.modify i (cutF m)) := fun j => by
  rw [getD_modify F i j _ hi]
  split
  · exact (cutF_ok m _ (h j)).1
  · exact h j
theorem fits_modify {F : List (Bs × Nat)} {t : Nat} (hs : SureOk F) (h : ∀ i, (F.getD i ([], 0)).1.length ≤ t) (i m : Nat) (hi : i < F.length) : ∀ j, ((F.modify i (cutF m)).getD j ([], 0)).1.length ≤ t := fun j => by
  rw [getD_modify F i j _ hi]
  split
  · exact Nat.le_trans (cutF_ok m _ (hs j)).2 (h j)
  · exact h j
def dnames (d : Dir) : List ByteArray := d.map fun p => bsS p.1
theorem sorted_of {b : Nat} {d : Dir} (h : MapR w own fb b d) (hl : d.length ≤ 1048576) : Calls Try.prog 35 #[.func (.func 60) #[] #[.pointer (some ⟨w.heap.size, 0, none⟩)]] (w.alloc (.cells #[.map (some b)] 61)) fun e w' => ∃ v, e = .returned v ∧ w'.ownsRow w.heap.size 9 1 v (dnames d).length ((dnames d).map .string) ∧ Below w.heap.size w w' := by
  refine (sorted_run b _ _ _ w h.owns (by rw [dirD_size]; unfold maxLen; omega) (by rw [dirD_size]; omega)).mono ?_
  rintro e w2 ⟨v, ss, rfl, hp, ho, _, hb⟩
  rw [strKeys_dirD] at hp
  rw [sort_names h.rising hp] at ho
  have hl : ss.length = (dnames d).length := by rw [hp.length_eq]; simp [dnames]
  refine ⟨v, rfl, ?_, ((Below.refl _ w).alloc (Nat.le_refl _) _).trans (hb.mono (by simp))⟩
  rw [hl] at ho
  have e2 : (d.map (·.1)).map Go.Proofs.encStr = (dnames d).map .string := by simp [dnames, Go.Proofs.encStr, bsS]
  rw [e2] at ho
  exact own_weaken ho (by simp)
theorem dnames_at (d : Dir) (k : Nat) (hk : k < d.length) : rdOf ByteArray.empty (dnames d) (k : Int) = bsS d[k].1 := by
  simp [rdOf, dnames, hk]
/-- The first k files of a directory have been cut. -/
def CutR (pl : Bool) (w0 W : World) (own own1 : Nat → Prop) (db dm sm : Nat) (chs : Value) (fb : List Nat) (xs : List Value) (M : DM) (b0 : Nat) (keep : List Int) (d : Dir) (k : Nat) : Prop :=
  (∃ sl', DiskR pl W own db dm sm chs fb sl' xs { M with files := cutAll keep 0 (d.take k) M.files }) ∧ MapR W own1 fb b0 d ∧ Only w0 W own ∧ SureOk (cutAll keep 0 (d.take k) M.files) ∧ ∀ i, ((cutAll keep 0 (d.take k) M.files).getD i ([], 0)).1.length ≤ 1099511627776
theorem CutR.open_ {w0 W : World} {b0 k : Nat} {keep : List Int} {d : Dir} (h : CutR pl w0 W own own1 db dm sm chs fb xs M b0 keep d k) (hk : k < d.length) :
    ∃ (b : Nat) (A : Option Addr) (L cap sr : Nat), L ≤ cap ∧ sr ≤ L ∧ L ≤ 1099511627776 ∧ own b ∧ W.heap[b]? = some (.cells #[.slice A L cap, .int .i64 (sr : Int)] 59 (0, 0)) ∧
      Sem.run Try.prog (Instr.lookup 61 (.map (some b0)) (.string (bsS d[k].1)) false) W = .ok (.pointer (some ⟨b, 0, none⟩)) W ∧
      ∀ nn, nn = sr + min (moreF keep k) (L - sr) → ∀ nq, CutR pl w0 (((W.drewN nq).setCell ⟨b, 0, none⟩ (.slice A nn nn)).setCell ⟨b, 1, none⟩ (.int .i64 (nn : Int))) own own1 db dm sm chs fb xs M b0 keep d (k + 1) := by
  obtain ⟨⟨sl', hD⟩, hM, hO, hS, hF⟩ := h
  have hmem : (d[k].1, d[k].2) ∈ d := List.getElem_mem hk
  have hg := dGet_of_mem hM.rising hmem
  have hi : d[k].2 < fb.length := hM.val _ hmem
  have hnm : (bsS d[k].1).size ≤ maxLen := by rw [bsS_size]; exact hM.names_le _ hmem
  have hlk := look hM (bsS d[k].1) hnm
  rw [bsS_list, hg] at hlk
  have hfl : fb.length = (cutAll keep 0 (d.take k) M.files).length := hD.files.lenb
  have hb : fb[d[k].2]? = some (fbG fb d[k].2) := by simp [fbG, List.getD_eq_getElem?_getD, hi]
  have h2 : d[k].2 < sl'.length := by rw [hD.files.lens, ← hD.files.lenb]; exact hi
  have hv : sl'[d[k].2]? = some sl'[d[k].2] := by simp [h2]
  obtain ⟨hblk, hsl⟩ := hD.files.blk _ _ _ _ hb hv (rdF _ _ (hfl ▸ hi))
  have hsz := hF d[k].2
  have hsr := hS d[k].2
  obtain ⟨A, cap, hva, hcap, -⟩ := hsl.reads (Nat.le_trans hsz (by omega))
  rw [hva] at hv hblk hsl
  refine ⟨fbG fb d[k].2, A, ((cutAll keep 0 (d.take k) M.files).getD d[k].2 ([], 0)).1.length, cap, ((cutAll keep 0 (d.take k) M.files).getD d[k].2 ([], 0)).2, hcap, hsr, hsz, hD.files.ow _ _ hb, hblk, hlk, fun nn hnn nq => ?_⟩
  have hDn : DiskR pl (W.drewN nq) own db dm sm chs fb sl' xs { M with files := cutAll keep 0 (d.take k) M.files } := hD.kept (fun _ _ => rfl) (fun _ h => h) hD.lt
  have hnl : nn ≤ ((cutAll keep 0 (d.take k) M.files).getD d[k].2 ([], 0)).1.length := by omega
  obtain ⟨r1, r2, r3⟩ := hDn.cutFile hb hv hblk (hsl.kept (fun _ _ => rfl) (fun _ h => h)) nn hnl
  have hset : cutAll keep 0 (d.take (k + 1)) M.files = (cutAll keep 0 (d.take k) M.files).set d[k].2 (((cutAll keep 0 (d.take k) M.files).getD d[k].2 ([], 0)).1.take nn, nn) := by
    rw [cutAll_succ keep d k hk, modify_set _ (hfl ▸ hi)]
    unfold cutF
    rw [hnn]
  refine ⟨⟨_, by rw [hset]; exact r1⟩, (hM.drewN nq).kept (r3 _ (fun e => ?_)) (fun _ h => h), (hO.trans (Only.of_below (pw_below_drewN (Below.refl _ _) nq) own) (fun _ _ h => h)).trans r2 (fun _ _ h => h), ?_, ?_⟩
  · exact ne_map hblk hM.owns e.symm
  · rw [cutAll_succ keep d k hk]; exact hS.modify _ _ (hfl ▸ hi)
  · rw [cutAll_succ keep d k hk]; exact fits_modify hS hF _ _ (hfl ▸ hi)
def sets5 (w : World) (db a b : Nat) : World := ((((w.setCell ⟨db, 1, none⟩ (.map (some a))).setCell ⟨db, 2, none⟩ (.map (some b))).setCell ⟨db, 3, none⟩ (.slice none 0 0)).setCell ⟨db, 5, none⟩ (.int .i64 4611686018427387904)).setCell ⟨db, 6, none⟩ (.int .i64 4611686018427387904)
theorem sets5_facts {w : World} {db a b : Nat} {x0 x1 x2 x3 x4 x5 x6 : Value} (h : w.heap[db]? = some (.cells #[x0, x1, x2, x3, x4, x5, x6] 64 (0, 0))) :
    (sets5 w db a b).heap[db]? = some (.cells #[x0, .map (some a), .map (some b), .slice none 0 0, x4, .int .i64 never, .int .i64 never] 64 (0, 0)) ∧ (∀ k, k ≠ db → (sets5 w db a b).heap[k]? = w.heap[k]?) ∧ (sets5 w db a b).heap.size = w.heap.size ∧ Only w (sets5 w db a b) (· = db) := by
  refine ⟨heap_set (heap_set (heap_set (heap_set (heap_set h 1 _) 2 _) 3 _) 5 _) 6 _, fun k hk => ?_, by simp [sets5, World.setCell], ?_⟩
  · unfold sets5
    rw [Below.heap_setCell _ _ _ _ hk, Below.heap_setCell _ _ _ _ hk, Below.heap_setCell _ _ _ _ hk, Below.heap_setCell _ _ _ _ hk, Below.heap_setCell _ _ _ _ hk]
  · have one : ∀ (w : World) (j : Nat) (v : Value), Only w (w.setCell ⟨db, j, none⟩ v) (· = db) := fun w j v => Only.setCell (S := fun k => k = db) (a := ⟨db, j, none⟩) rfl v
    exact ((((one _ _ _).trans (one _ _ _) (fun _ _ h => h)).trans (one _ _ _) (fun _ _ h => h)).trans (one _ _ _) (fun _ _ h => h)).trans (one _ _ _) (fun _ _ h => h)
set_option maxRecDepth 100000 in
set_option maxHeartbeats 4000000 in
theorem Crash.calls (h : DiskR pl w own db dm sm chs fb sl xs M) (n : Int) (A : Option Addr) (c : Nat) (keep : List Int) (HK : ∀ W, Only w W own → Kd.C (Kd.int .i64) W A keep.length keep) (hcap : keep.length ≤ c) (hch : ChgOk M)
    (hl : M.sdir.length + M.chg.length < 1048576) (hf : Fits M 1099511627776) (hsure : SureOk M.files) :
    Calls Try.prog 13 #[.pointer (some ⟨db, 0, none⟩), .int .i64 n, .slice A keep.length c] w fun e w' => e = .returned (.tuple #[]) ∧ Went pl w w' own db (crashF M n keep) := by
  have hodb := h.odb
  have hcl := clone_run h.sdirR
  have y2 := cells_of h.bdb 2 rfl
  have H := Aside0.mk h
  have HKK := Aside0.mk HK; have HCAP := Aside0.mk hcap; have HCH := Aside0.mk hch; have HL := Aside0.mk hl; have HF := Aside0.mk hf; have HSU := Aside0.mk hsure
  clear h HK hcap hch hl hf hsure
  go_enter Try.func13, Try.ntmps13
  go_wp2_with fail
  refine hcl.mono ?_
  rintro e w1 ⟨rfl, ho1, hb1, hs1⟩
  have hD1 := H.out.below hb1
  have y3 : w1.cell? ⟨db, 3, none⟩ = some chs := cells_of hD1.bdb 3 rfl
  obtain ⟨Ac, nc, cc, rfl, hle⟩ : ∃ A2 n2 c2, chs = .slice A2 n2 c2 ∧ n2 ≤ c2 := by
    rcases hD1.chgR.row.2 with ⟨rfl, _⟩ | ⟨g', cap, cur, rfl, _, _, hle, _⟩
    · exact ⟨_, _, _, rfl, Nat.le_refl _⟩
    · exact ⟨_, _, _, rfl, hle⟩
  have HD1 := Aside0.mk hD1; have HO1 := Aside0.mk ho1; have HB1 := Aside0.mk hb1; have HS1 := Aside0.mk hs1
  clear hD1 ho1 hb1 hs1 hcl y2
  obtain ⟨K, hK⟩ : ∃ K : Nat, K = min n.toNat nc := ⟨_, rfl⟩
  have HK0 := Aside0.mk hK
  have hmin : min (max n 0) (nc : Int) = (K : Int) := by omega
  have hKle : K ≤ cc := by omega
  clear hK
  go_wp2_with fail
  go_quiet (fail)
  clear hmin y3
  have hxl : xs.length = nc := by
    have h1 := HD1.out.chgR.row
    rcases h1.2 with ⟨h2, h3⟩ | ⟨g', cap, cur, h2, _⟩
    · simp only [Value.slice.injEq] at h2; omega
    · simp only [Value.slice.injEq] at h2; omega
  have hcl : M.chg.length = nc := by rw [← hxl]; exact HD1.out.chgR.len.symm
  have hKn : K ≤ nc := by have := HK0.out; omega
  have HXL := Aside0.mk hxl; have HCL := Aside0.mk hcl; have HKN := Aside0.mk hKn
  have hKb : K ≤ 1048576 := by have := HL.out; omega
  clear hxl hcl hKn
  have hl1 : Aside0 (MapR (w1.drewN nq) (plus own w.heap.size 1) fb w.heap.size (replay M.sdir (M.chg.take 0)) ∧ Only w1 (w1.drewN nq) (· = w.heap.size)) :=
    ⟨⟨.inr ⟨Nat.le_refl _, by omega⟩, HO1.out, HD1.out.sdirR.val⟩, Only.of_below (pw_below_drewN (Below.refl _ _) _) _⟩
  go_wp2
  go_loopw [35] (fun i wr => ∃ k : Nat, k ≤ K ∧ i = .int .i64 k ∧ Aside0 (MapR wr (plus own w.heap.size 1) fb w.heap.size (replay M.sdir (M.chg.take k)) ∧ Only w1 wr (· = w.heap.size))) (fun i _ => K - (intOf i).toNat)
  case atStart => exact ⟨0, Nat.zero_le _, rfl, hl1⟩
  case round =>
    clear hl1
    obtain ⟨k, hk, rfl, HL1⟩ := hrel
    by_cases hlt : k < K
    · have hltz : (k : Int) < (K : Int) := by omega
      have hlen : (replay M.sdir (M.chg.take k)).length < maxLen := by
        have h1 := replay_le (M.chg.take k) M.sdir
        have h2 : (M.chg.take k).length ≤ M.chg.length := List.length_take_le' _ _
        have h3 := HL.out
        unfold maxLen; omega
      have hkx : k < xs.length := by have h1 := HXL.out; have h2 := HKN.out; omega
      have hkc : k < M.chg.length := by have h1 := HCL.out; have h2 := HKN.out; omega
      have hDr : DiskR pl wr own db dm sm (.slice Ac nc cc) fb sl xs M := HD1.out.kept (fun j hj => HL1.out.2.block j (HD1.out.lt j hj) (fun e => by have := H.out.lt j hj; omega)) (fun _ h => h) (fun j hj => Nat.lt_of_lt_of_le (HD1.out.lt j hj) HL1.out.2.size)
      have hC := hDr.chgR.each k xs[k] M.chg[k] (List.getElem?_eq_getElem hkx) (List.getElem?_eq_getElem hkc)
      have hC1 := hC.kept (w' := wr) (own' := plus own w.heap.size 1) (fb' := fb) (fun _ _ _ _ _ _ _ => rfl) (fun _ h => .inl h) (fun i hi => ⟨rfl, hi⟩)
      have hok := HCH.out k M.chg[k] (List.getElem?_eq_getElem hkc)
      rw [← HD1.out.files.lenb] at hok
      obtain ⟨g, lb, hv, eg, hrun⟩ := clos_run hC1 hok HL1.out.1 hlen
      have hcell : ∃ ad, Ac = some ad ∧ wr.cell? (ad.add k) = some (.func (.func g) #[] lb) := by
        have hrow := hDr.chgR.row
        rcases hrow.2 with ⟨h1, h2⟩ | ⟨g', cap, cur, h1, _⟩
        · omega
        · simp only [Value.slice.injEq] at h1
          refine ⟨_, h1.1, ?_⟩
          rw [← hv]
          exact hrow.cells (g := g') (by rw [h1.1]; rfl) k _ (List.getElem?_eq_getElem hkx)
      obtain ⟨ad, rfl, hcell⟩ := hcell
      have HL2 : Aside0 (∀ w2, MapR w2 (plus own w.heap.size 1) fb w.heap.size (M.chg[k].app (replay M.sdir (M.chg.take k))) → Only wr w2 (· = w.heap.size) → MapR w2 (plus own w.heap.size 1) fb w.heap.size (replay M.sdir (M.chg.take (k + 1))) ∧ Only w1 w2 (· = w.heap.size)) := ⟨fun w2 h1 h2 => by
        rw [List.take_succ_eq_append_getElem hkc, replay_snoc]
        exact ⟨h1, HL1.out.2.trans h2 (fun _ _ h => h)⟩⟩
      clear hC hC1 hok hDr hv hlen
      go_wp2_with (go_at_fn g; refine hrun.mono ?_; rintro e w2 ⟨rfl, hM2, hO2⟩; (have HL3 := Aside0.mk (HL2.out w2 hM2 hO2)); clear hM2 hO2)
      go_roundw
      case rel => exact ⟨k + 1, by omega, by go_num, HL3⟩
      case measure => simp [intOf]; omega
    · obtain rfl : k = K := by omega
      have hltz : decide ((k : Int) < (k : Int)) = false := by simp
      obtain ⟨hM, hO⟩ := HL1.out
      have hlen : (replay M.sdir (M.chg.take k)).length ≤ 1048576 := by
        have h1 := replay_le (M.chg.take k) M.sdir
        have h2 : (M.chg.take k).length ≤ M.chg.length := List.length_take_le' _ _
        have h3 := HL.out
        omega
      have hnames := sorted_of hM hlen
      have htake : Aside0 (M.chg.take k = M.chg.take n.toNat) := ⟨by
        have h1 := HK0.out
        have h2 := HCL.out
        rcases Nat.le_total n.toNat nc with h | h
        · rw [h1, Nat.min_eq_left h]
        · rw [List.take_of_length_le (by omega), List.take_of_length_le (by omega)]⟩
      have HM := Aside0.mk hM; have HO := Aside0.mk hO; have HLen := Aside0.mk hlen
      clear hM hO hlen
      go_wp2_with fail
      refine (keys_run _ _).mono ?_
      rintro e w2 ⟨rfl, rfl⟩
      go_wp2_with fail
      refine hnames.mono ?_
      rintro e w3 ⟨v, rfl, ho3, hb3⟩
      rw [htake.out] at HM HLen ho3
      generalize hd : replay M.sdir (M.chg.take n.toNat) = d at HM HLen ho3
      have HDD := Aside0.mk hd
      obtain ⟨A3, c3, rfl, hAc3, hrd3⟩ := Kd.R_reads (Kd.R_of_own (ok := fun _ => True) (h1 := fun _ => rfl) ho3 (fun _ _ => trivial))
      have hdl : (dnames d).length = d.length := by simp [dnames]
      rw [hdl] at ho3 ⊢
      have HO3 := Aside0.mk ho3; have HB3 := Aside0.mk hb3
      clear hnames ho3 hb3 hrd3 hAc3 hd htake HL1
      have hsw : w.heap.size ≤ wr.heap.size := Nat.le_trans HB1.out.size HO.out.size
      have hOw : Only w wr own := (Only.of_below HB1.out own).trans HO.out (fun i hi e => by omega)
      have hDr : DiskR pl wr own db dm sm (.slice Ac nc cc) fb sl xs M := HD1.out.kept (fun q hq => HO.out.block q (HD1.out.lt q hq) (fun e => by have := H.out.lt q hq; omega)) (fun _ h => h) (fun q hq => Nat.lt_of_lt_of_le (HD1.out.lt q hq) HO.out.size)
      have hcut0 : CutR pl w3 w3 own (plus own w.heap.size 1) db dm sm (.slice Ac nc cc) fb xs M w.heap.size keep d 0 :=
        ⟨⟨sl, hDr.below HB3.out⟩, HM.out.kept (HB3.out.block _ (by have := HM.out.owns.lt; exact this)) (fun _ h => h), Only.refl _ _, HSU.out, HF.out⟩
      have HOW3 := Aside0.mk (hOw.trans (Only.of_below HB3.out own) (fun _ _ h => h))
      have HCUT0 := Aside0.mk hcut0
      have HSW := Aside0.mk hsw
      clear hsw hOw hDr hcut0
      obtain ⟨wo, rfl⟩ : ∃ x, x = wr := ⟨wr, rfl⟩
      go_wp2_with fail
      go_loopw [47] (fun i W => ∃ j : Nat, j ≤ d.length ∧ i = .int .i64 j ∧ Aside0 (CutR pl w3 W own (plus own w.heap.size 1) db dm sm (.slice Ac nc cc) fb xs M w.heap.size keep d j)) (fun i _ => d.length - (intOf i).toNat)
      case atStart => exact ⟨0, Nat.zero_le _, rfl, HCUT0⟩
      case round =>
        obtain ⟨j, hj, rfl, HC⟩ := hrel
        by_cases hlt2 : j < d.length
        · obtain ⟨b, A2, L, cap, sr, hLc, hsrL, hL, hob, hblk, hlk, hnext⟩ := HC.out.open_ hlt2
          have hrow : wr.ownsRow wo.heap.size 9 1 (.slice A3 d.length c3) d.length ((dnames d).map .string) := own_move HO3.out (fun q hq => HC.out.2.2.1.block q (HO3.out.lt q hq).2 (fun e => by have h1 := (HO3.out.lt q hq).1; have h2 := H.out.lt q e; have h3 := HSW.out; omega))
          obtain ⟨A', c', he, _, hrd⟩ := Kd.R_reads (Kd.R_of_own (ok := fun _ => True) (h1 := fun _ => rfl) (by rw [show (dnames d).length = d.length by simp [dnames]]; exact hrow) (fun _ _ => trivial))
          simp only [Value.slice.injEq] at he
          obtain ⟨rfl, -, rfl⟩ := he
          obtain ⟨ad, rfl, hcell⟩ := Kd.at_string hrd (j : Int) (by omega) (by simp [dnames]; omega)
          rw [dnames_at d j hlt2, Int.toNat_natCast] at hcell
          obtain ⟨nm, hnm⟩ : ∃ nm, bsS d[j].1 = nm := ⟨_, rfl⟩
          rw [hnm] at hcell hlk
          have c0 : wr.cell? ⟨b, 0, none⟩ = some (.slice A2 L cap) := cells_of hblk 0 rfl
          have c1 : wr.cell? ⟨b, 1, none⟩ = some (.int .i64 sr) := cells_of hblk 1 rfl
          have f0 := free_of hblk 0
          have f1 := free_of hblk 1
          have hkr := HKK.out wr (HOW3.out.trans HC.out.2.2.1 (fun _ _ h => h))
          have HNX := Aside0.mk hnext
          have HLT2 := Aside0.mk hlt2
          obtain ⟨q, hq⟩ : ∃ q : Nat, q = L - sr := ⟨_, rfl⟩
          have HQ := Aside0.mk hq
          have e1 : IntKind.i64.wrap ((L : Int) - (sr : Int)) = (q : Int) := by rw [IntWalk.i64_in _ (by omega)]; omega
          clear hob hrow hrd hnm hnext hblk
          by_cases hkl : keep.length = 0
          · have hm0 : moreF keep j = 0 := if_pos hkl
            have hnn := HNX.out sr (by rw [hm0]; simp)
            have HNN := Aside0.mk hnn
            have hdk : decide (0 < keep.length) = false := by rw [decide_eq_false_iff_not]; omega
            have e2 : min (0 : Int) (q : Int) = 0 := by omega
            have e3 : IntKind.i64.wrap (sr : Int) = (sr : Int) := IntWalk.i64_in _ (by omega)
            have hcut := cut_run A2 L cap sr (by omega)
            have hjb : (j : Int) ≤ 1048576 := by have := HLen.out; omega
            clear hq hm0 hnn hkl hsrL hL hLc
            go_wp2_with fail
            go_wp2_with fail
            go_quiet (fail)
            go_wp2
            go_roundw
            case rel => exact ⟨j + 1, by have := HLT2.out; omega, by go_num, ⟨HNN.out nq⟩⟩
            case measure => simp [intOf]; have := HLT2.out; omega
          · have hkp : 0 < keep.length := by omega
            obtain ⟨m2, hm2⟩ : ∃ m2, m2 = j % keep.length := ⟨_, rfl⟩
            have hm2l : m2 < keep.length := by rw [hm2]; exact Nat.mod_lt _ hkp
            obtain ⟨ad2, rfl, hck⟩ := Kd.at_int hkr (m2 : Int) (by omega) (by omega)
            rw [Int.toNat_natCast] at hck
            obtain ⟨x, hx⟩ : ∃ x, x = rd keep (m2 : Int) := ⟨_, rfl⟩
            rw [← hx] at hck
            obtain ⟨m, hm⟩ : ∃ m : Nat, m = x.toNat := ⟨_, rfl⟩
            have hm0 : moreF keep j = m := by
              unfold moreF
              rw [if_neg hkl, ← hm2, hm, hx]
              simp [rd]
            obtain ⟨r, hr⟩ : ∃ r : Nat, r = min m q := ⟨_, rfl⟩
            obtain ⟨nn, hnn0⟩ : ∃ nn : Nat, nn = sr + r := ⟨_, rfl⟩
            have hnn := HNX.out nn (by rw [hm0, hnn0, hr, hq])
            have HNN := Aside0.mk hnn
            have hmod : (j : Int) % (keep.length : Int) = (m2 : Int) := by rw [hm2]; rfl
            have hmax : max x 0 = (m : Int) := by omega
            have e2 : min (m : Int) (q : Int) = (r : Int) := by omega
            have e3 : IntKind.i64.wrap ((sr : Int) + (r : Int)) = (nn : Int) := by rw [IntWalk.i64_in _ (by omega)]; omega
            have hcut := cut_run A2 L cap nn (by omega)
            have hjb : (j : Int) ≤ 1048576 := by have := HLen.out; omega
            have hm2z : (m2 : Int) < (keep.length : Int) := by omega
            clear hq hm0 hnn hkl hsrL hL hLc hnn0 hr hm hx hm2
            go_wp2_with fail
            go_wp2_with fail
            go_quiet (fail)
            go_wp2
            go_roundw
            case rel => exact ⟨j + 1, by have := HLT2.out; omega, by go_num, ⟨HNN.out nq⟩⟩
            case measure => simp [intOf]; have := HLT2.out; omega
        · obtain rfl : j = d.length := by omega
          obtain ⟨⟨sl', hD⟩, hM, hO, _, _⟩ := HC.out
          rw [List.take_length] at hD
          have hcl := clone_run hM
          have HD := Aside0.mk hD; have HM2 := Aside0.mk hM; have HO2 := Aside0.mk hO
          have hnlt : ¬ d.length < d.length := Nat.lt_irrefl _
          clear hD hM hO HC
          go_wp2_with fail
          refine hcl.mono ?_
          rintro e w4 ⟨rfl, ho4, hb4, hs4⟩
          have hbb := (hb4.block db (HD.out.lt db hodb)).trans HD.out.bdb
          have y1 := cells_of hbb 1 rfl
          have y2 := cells_of hbb 2 rfl
          have y3 := cells_of hbb 3 rfl
          have y5 := cells_of hbb 5 rfl
          have y6 := cells_of hbb 6 rfl
          have f1 := free_of hbb 1
          have f2 := free_of hbb 2
          have f3 := free_of hbb 3
          have f5 := free_of hbb 5
          have f6 := free_of hbb 6
          have HO4 := Aside0.mk ho4; have HB4 := Aside0.mk hb4; have HS4 := Aside0.mk hs4; have HBB := Aside0.mk hbb
          clear ho4 hb4 hs4 hbb hcl
          go_wp2
          go_end0
          obtain ⟨z1, z2, z3, z4⟩ := sets5_facts (a := w.heap.size) (b := wr.heap.size) HBB.out
          have hD4 := HD.out.below HB4.out
          have hwr : w.heap.size < wr.heap.size := HM2.out.owns.lt
          have hsub : ∀ q, own q → plus own w.heap.size ((sets5 w4 db w.heap.size wr.heap.size).heap.size - w.heap.size) q := fun _ h => .inl h
          have hmap : ∀ (q n' : Nat) (D : DataW Unit), w4.ownsMap Try.prog 9 ptrElem q n' D → (sets5 w4 db w.heap.size wr.heap.size).heap[q]? = w4.heap[q]? := fun q n' D h => z2 q (ne_map HBB.out h).symm
          have hM4 := HM2.out.kept (own' := plus own w.heap.size 1) (HB4.out.block _ hwr) (fun _ h => h)
          have hfin := hD4.turn (w' := sets5 w4 db w.heap.size wr.heap.size) (own' := plus own w.heap.size ((sets5 w4 db w.heap.size wr.heap.size).heap.size - w.heap.size)) (fun q _ hq => z2 q hq) hsub
            (fun q hq => by rcases hq with hq | hq; (rw [z3]; exact hD4.lt q hq); omega) (dm' := w.heap.size) (sm' := wr.heap.size) (d := d) (s := d) z1
            (MapR.kept (own' := plus own w.heap.size ((sets5 w4 db w.heap.size wr.heap.size).heap.size - w.heap.size)) hM4 (hmap _ _ _ hM4.owns) (fun q hq => by rcases hq with hq | hq; exact .inl hq; exact .inr ⟨hq.1, by rw [z3, HS4.out]; omega⟩))
            (MapR.kept (own' := plus own w.heap.size ((sets5 w4 db w.heap.size wr.heap.size).heap.size - w.heap.size)) (⟨.inr ⟨by omega, by rw [z3, HS4.out]; omega⟩, HO4.out, HM2.out.val⟩ : MapR w4 (plus own w.heap.size ((sets5 w4 db w.heap.size wr.heap.size).heap.size - w.heap.size)) fb wr.heap.size d) (hmap _ _ _ HO4.out) (fun _ h => h))
            (by omega)
          refine ⟨rfl, Went.mk hfin ?_ (fun q hq => hq.imp (fun h => h) (fun h => h.1)) ?_⟩
          · unfold crashF
            rw [HDD.out]
          · exact (((HOW3.out.trans HO2.out (fun _ _ h => h)).trans (Only.of_below HB4.out own) (fun _ _ h => h)).trans (z4.mono (S' := own) (fun q _ e => e ▸ hodb)) (fun _ _ h => h))
end
end Go.Proofs.Ytephblclhojffaa.A
