/- The disk as plain data: what each of its calls does; no program, no memory. -/
import GoSem.ClaimWide
namespace Go.Proofs.Ytephblclhojffaa.A
open Go
set_option linter.unusedVariables false

abbrev Bs := List UInt8
/-- A directory: names in order, each with its file's number. -/
abbrev Dir := List (Bs × Nat)
def dIns (x : Bs × Nat) : Dir → Dir
  | [] => [x]
  | y :: r => if bytesBefore x.1 y.1 then x :: y :: r else y :: dIns x r
def dDel (d : Dir) (k : Bs) : Dir := d.filter fun p => !(p.1 == k)
def dPut (d : Dir) (k : Bs) (f : Nat) : Dir := dIns (k, f) (dDel d k)
def dGet (d : Dir) (k : Bs) : Option Nat := (d.find? fun p => p.1 == k).map (·.2)

/-- A change of the directory. -/
inductive Chg where
  | mk (k : Bs) (f : Nat)
  | ren (a b : Bs)
  | rm (a : Bs)
def Chg.app (d : Dir) : Chg → Dir
  | .mk k f => dPut d k f
  | .ren a b => match dGet d a with | some f => dDel (dPut d b f) a | none => d
  | .rm a => dDel d a
/-- A change that may be made. -/
def Chg.ok (nf : Nat) (d : Dir) : Chg → Prop
  | .mk k f => f < nf
  | .ren a b => (dGet d a).isSome = true
  | .rm a => True

structure DM where
  files : List (Bs × Nat)
  dir : Dir
  sdir : Dir
  chg : List Chg
  space : Int
  calls : Int
  halt : Int
  deny : Int
def never : Int := 4611686018427387904
def mx0 (n : Int) : Int := if n < 0 then 0 else n
def newF (space : Int) : DM := ⟨[], [], [], [], mx0 space, 0, never, never⟩

def rightC (c : UInt8) : Bool := (97 ≤ c && c ≤ 122) || (48 ≤ c && c ≤ 57) || c == 46
def rightB (s : Bs) : Bool := s.all rightC && decide (1 ≤ s.length) && decide (s.length ≤ 12)

def tick (M : DM) : DM := { M with calls := M.calls + 1 }
def callE (M : DM) : Int := if M.halt ≤ M.calls then 11 else if M.calls = M.deny then 9 else 0
def held (M : DM) : Nat := (M.dir.map fun p => (M.files.getD p.2 ([], 0)).1.length).sum

def createF (M : DM) (k : Bs) : DM × Int :=
  if callE M ≠ 0 then (tick M, callE M)
  else if (dGet M.dir k).isSome || !rightB k then (tick M, 12)
  else ({ tick M with files := M.files ++ [([], 0)], dir := dPut M.dir k M.files.length, chg := M.chg ++ [.mk k M.files.length] }, 0)
def appendF (M : DM) (k s : Bs) : DM × Int :=
  if callE M ≠ 0 then (tick M, callE M)
  else match dGet M.dir k with
    | none => (tick M, 12)
    | some i => if M.space - held M < s.length then (tick M, 10) else ({ tick M with files := M.files.modify i fun f => (f.1 ++ s, f.2) }, 0)
def syncF (M : DM) (k : Bs) : DM × Int :=
  if callE M ≠ 0 then (tick M, callE M)
  else match dGet M.dir k with
    | none => (tick M, 12)
    | some i => ({ tick M with files := M.files.modify i fun f => (f.1, f.1.length) }, 0)
def renameF (M : DM) (a b : Bs) : DM × Int :=
  if callE M ≠ 0 then (tick M, callE M)
  else if (dGet M.dir a).isNone || a == b || !rightB b then (tick M, 12)
  else ({ tick M with dir := Chg.app M.dir (.ren a b), chg := M.chg ++ [.ren a b] }, 0)
def removeF (M : DM) (a : Bs) : DM × Int :=
  if callE M ≠ 0 then (tick M, callE M)
  else if (dGet M.dir a).isNone then (tick M, 12)
  else ({ tick M with dir := Chg.app M.dir (.rm a), chg := M.chg ++ [.rm a] }, 0)
def syncDirF (M : DM) : DM × Int :=
  if callE M ≠ 0 then (tick M, callE M) else ({ tick M with sdir := M.dir, chg := [] }, 0)
def readF (M : DM) (k : Bs) : Bs × Int := match dGet M.dir k with | none => ([], 12) | some i => ((M.files.getD i ([], 0)).1, 0)
def spaceF (M : DM) (n : Int) : DM := { M with space := mx0 n }
def laterF (M : DM) (n : Int) : Int := if n < 0 ∨ 1099511627776 < n then never else M.calls + n
def stopF (M : DM) (n : Int) : DM := { M with halt := laterF M n }
def refuseF (M : DM) (n : Int) : DM := { M with deny := laterF M n }
/-- How many bytes of a file stay. -/
def moreF (keep : List Int) (i : Nat) : Nat := if keep.length = 0 then 0 else (keep.getD (i % keep.length) 0).toNat
def cutF (more : Nat) (f : Bs × Nat) : Bs × Nat := (f.1.take (f.2 + min more (f.1.length - f.2)), f.2 + min more (f.1.length - f.2))
def cutAll (keep : List Int) : Nat → Dir → List (Bs × Nat) → List (Bs × Nat)
  | _, [], fs => fs
  | i, p :: r, fs => cutAll keep (i + 1) r (fs.modify p.2 (cutF (moreF keep i)))
def replay (d : Dir) (cs : List Chg) : Dir := cs.foldl Chg.app d
def crashF (M : DM) (n : Int) (keep : List Int) : DM :=
  let l := replay M.sdir (M.chg.take n.toNat)
  { M with files := cutAll keep 0 l M.files, dir := l, sdir := l, chg := [], halt := never, deny := never }
end Go.Proofs.Ytephblclhojffaa.A
