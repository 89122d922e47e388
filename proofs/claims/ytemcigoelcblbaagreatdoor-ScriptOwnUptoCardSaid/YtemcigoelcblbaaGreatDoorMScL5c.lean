/-
  Texts joined: ScP.
-/
import Derived.Test.YtemcigoelcblbaaGreatDoorMScL5a
import Derived.Lib.AtoiAllCases
import Derived.Lib.ItoaLen
import Derived.Lib.SplitLaws
import Derived.Lib.Join
/- texts of scripts, plain: words, numbers, lists, steps, lines -/
namespace Go.Proofs.YtemcigoelcblbaaGreatDoor
open Go.Lib
/-- A text cut at every c. -/
def splitP (c : UInt8) : List UInt8 → List (List UInt8)
  | [] => [[]]
  | x :: r => if x = c then [] :: splitP c r else match splitP c r with
    | [] => [[x]]
    | h :: t => (x :: h) :: t
def wordsP (t : List UInt8) : List (List UInt8) := (splitP 32 t).filter fun w => decide (w ≠ [])
def numP (w : List UInt8) : Option Int := match atoiAll w with
  | .ok v => if itoa v = w then some v else none
  | _ => none
def numsP : List (List UInt8) → Option (List Int)
  | [] => some []
  | w :: ws => (numP w).bind fun n => (numsP ws).map (n :: ·)
def listP (w : List UInt8) : Option (List Int) := if w = [45] then some [] else numsP (splitP 44 w)
def listL (l : List Int) : List UInt8 := if l = [] then [45] else join (l.map itoa) [44]
structure StP where
  kind : Int
  a : Int
  b : Int
  c : Int
  ik : Int
  x : Int
  y : Int
  verb : Int
  ep : Int
  st : Int
  cells : List Int
  keeps : List Int
  deriving DecidableEq, Inhabited
def noSt : StP := ⟨0, 0, 0, 0, 0, 0, 0, 0, 0, 0, [], []⟩
/-- What a word is. -/
inductive Wk where
  | a | b | c | x | y | e | s | r | k
  deriving DecidableEq, Inhabited
def Wk.num : Wk → Bool
  | .r => false
  | .k => false
  | _ => true
def Wk.byte : Wk → UInt8
  | .a => 97
  | .b => 98
  | .c => 99
  | .x => 120
  | .y => 121
  | .e => 101
  | .s => 115
  | .r => 114
  | .k => 107
def StP.putN (z : StP) (n : Int) : Wk → StP
  | .a => { z with a := n }
  | .b => { z with b := n }
  | .c => { z with c := n }
  | .x => { z with x := n }
  | .y => { z with y := n }
  | .e => { z with ep := n }
  | .s => { z with st := n }
  | .r => z
  | .k => z
def StP.putL (z : StP) (l : List Int) : Wk → StP
  | .r => { z with cells := l }
  | .k => { z with keeps := l }
  | _ => z
def StP.getN (z : StP) : Wk → Int
  | .a => z.a
  | .b => z.b
  | .c => z.c
  | .x => z.x
  | .y => z.y
  | .e => z.ep
  | .s => z.st
  | .r => 0
  | .k => 0
def StP.getL (z : StP) : Wk → List Int
  | .r => z.cells
  | .k => z.keeps
  | _ => []
def readW (z : StP) (κ : Wk) (w : List UInt8) : Option StP := if κ.num then (numP w).map fun n => z.putN n κ else (listP w).map fun l => z.putL l κ
def readsW : StP → List Wk → List (List UInt8) → Option StP
  | z, κ :: ks, w :: ws => (readW z κ w).bind fun z' => readsW z' ks ws
  | z, _, _ => some z
def writeW (z : StP) (κ : Wk) : List UInt8 := if κ.num then itoa (z.getN κ) else listL (z.getL κ)
structure CmdP where
  name : List UInt8
  kind : Int
  ik : Int
  verb : Int
  ws : List Wk
  deriving DecidableEq, Inhabited
def CmdP.step (c : CmdP) : StP := ⟨c.kind, 0, 0, 0, c.ik, 0, 0, c.verb, 0, 0, [], []⟩
/-- All commands, as the program has them. -/
def cmdsP : List CmdP := [⟨[109, 97, 112], 1, 0, 0, [.a, .b, .c]⟩, ⟨[98, 108, 111, 99, 107], 2, 0, 0, [.a]⟩, ⟨[100, 111, 99, 107], 3, 0, 0, [.a]⟩, ⟨[104, 105, 115, 116, 111, 114, 121], 5, 0, 0, []⟩, ⟨[106, 117, 100, 103, 101], 7, 0, 0, []⟩, ⟨[115, 101, 101, 110], 8, 0, 0, []⟩, ⟨[115, 116, 111, 114, 101, 100], 6, 0, 0, [.a, .k]⟩,
  ⟨[100, 101, 108, 105, 118, 101, 114], 4, 2, 0, [.x]⟩, ⟨[100, 114, 111, 112], 4, 3, 0, [.x]⟩, ⟨[99, 111, 112, 121], 4, 4, 0, [.x]⟩, ⟨[116, 105, 99, 107], 4, 5, 0, [.x]⟩, ⟨[115, 116, 101, 112], 4, 6, 0, [.x]⟩, ⟨[112, 105, 108, 111, 116], 4, 11, 0, [.x]⟩, ⟨[97, 114, 109], 4, 7, 0, [.x, .y]⟩, ⟨[116, 97, 115, 107], 4, 10, 0, [.x, .y]⟩, ⟨[99, 114, 97, 115, 104], 4, 8, 0, [.x, .k]⟩, ⟨[115, 116, 97, 114, 116], 4, 9, 0, [.x, .k]⟩,
  ⟨[114, 101, 103, 105, 115, 116, 101, 114], 4, 1, 1, [.x]⟩, ⟨[113, 117, 101, 114, 121], 4, 1, 6, [.x]⟩, ⟨[98, 101, 97, 116], 4, 1, 2, [.x, .e]⟩, ⟨[114, 101, 108, 101, 97, 115, 101], 4, 1, 5, [.x, .e]⟩, ⟨[114, 101, 115, 101, 114, 118, 101], 4, 1, 3, [.x, .e, .s, .r]⟩, ⟨[101, 120, 116, 101, 110, 100], 4, 1, 4, [.x, .e, .r]⟩]
/-- All commands, as the document has them. -/
def cmdsD : List CmdP := [⟨[109, 97, 112], 1, 0, 0, [.a, .b, .c]⟩, ⟨[98, 108, 111, 99, 107], 2, 0, 0, [.a]⟩, ⟨[100, 111, 99, 107], 3, 0, 0, [.a]⟩, ⟨[104, 105, 115, 116, 111, 114, 121], 5, 0, 0, []⟩, ⟨[115, 116, 111, 114, 101, 100], 6, 0, 0, [.a, .k]⟩, ⟨[106, 117, 100, 103, 101], 7, 0, 0, []⟩, ⟨[115, 101, 101, 110], 8, 0, 0, []⟩,
  ⟨[100, 101, 108, 105, 118, 101, 114], 4, 2, 0, [.x]⟩, ⟨[100, 114, 111, 112], 4, 3, 0, [.x]⟩, ⟨[99, 111, 112, 121], 4, 4, 0, [.x]⟩, ⟨[116, 105, 99, 107], 4, 5, 0, [.x]⟩, ⟨[115, 116, 101, 112], 4, 6, 0, [.x]⟩, ⟨[97, 114, 109], 4, 7, 0, [.x, .y]⟩, ⟨[99, 114, 97, 115, 104], 4, 8, 0, [.x, .k]⟩, ⟨[115, 116, 97, 114, 116], 4, 9, 0, [.x, .k]⟩, ⟨[116, 97, 115, 107], 4, 10, 0, [.x, .y]⟩, ⟨[112, 105, 108, 111, 116], 4, 11, 0, [.x]⟩,
  ⟨[114, 101, 103, 105, 115, 116, 101, 114], 4, 1, 1, [.x]⟩, ⟨[98, 101, 97, 116], 4, 1, 2, [.x, .e]⟩, ⟨[114, 101, 115, 101, 114, 118, 101], 4, 1, 3, [.x, .e, .s, .r]⟩, ⟨[101, 120, 116, 101, 110, 100], 4, 1, 4, [.x, .e, .r]⟩, ⟨[114, 101, 108, 101, 97, 115, 101], 4, 1, 5, [.x, .e]⟩, ⟨[113, 117, 101, 114, 121], 4, 1, 6, [.x]⟩]
def findP (l : List CmdP) (nm : List UInt8) : Option CmdP := l.find? fun c => decide (c.name = nm)
/-- A command with its words. -/
def cmdP (c : CmdP) (ws : List (List UInt8)) : StP × Int := if ws.length ≠ c.ws.length then (noSt, 241) else match readsW c.step c.ws ws with
  | none => (noSt, 241)
  | some z => (z, 0)
def lineW (l : List CmdP) (ws : List (List UInt8)) : StP × Int := match ws with
  | [] => (noSt, 240)
  | nm :: r => match findP l nm with
    | none => (noSt, 240)
    | some c => cmdP c r
/-- The step of a line, and the error. -/
def lineP (t : List UInt8) : StP × Int := if 1024 < t.length then (noSt, 3) else lineW cmdsP (wordsP t)
theorem find_iff : ∀ (l : List CmdP) (nm : List UInt8) (c : CmdP), (l.map CmdP.name).Nodup → (findP l nm = some c ↔ c ∈ l ∧ c.name = nm)
  | [], nm, c, _ => by simp [findP]
  | d :: l, nm, c, h => by
    have h2 := List.nodup_cons.1 h
    have ih := find_iff l nm c h2.2
    unfold findP at ih ⊢
    rw [List.find?_cons]
    by_cases hd : d.name = nm
    · rw [decide_eq_true hd]
      constructor
      · intro e
        obtain rfl : d = c := Option.some.inj e
        exact ⟨List.mem_cons_self, hd⟩
      · rintro ⟨h3, h4⟩
        rcases List.mem_cons.1 h3 with rfl | h3
        · rfl
        · exact absurd (List.mem_map.2 ⟨c, h3, h4.trans hd.symm⟩) h2.1
    · rw [decide_eq_false hd, ih]
      constructor
      · rintro ⟨h3, h4⟩
        exact ⟨List.mem_cons_of_mem _ h3, h4⟩
      · rintro ⟨h3, h4⟩
        rcases List.mem_cons.1 h3 with rfl | h3
        · exact absurd h4 hd
        · exact ⟨h3, h4⟩
theorem mem_D {c : CmdP} : c ∈ cmdsD ↔ c ∈ cmdsP := by
  have h1 : cmdsD.all (fun c => decide (c ∈ cmdsP)) = true := by decide +kernel
  have h2 : cmdsP.all (fun c => decide (c ∈ cmdsD)) = true := by decide +kernel
  exact ⟨fun h => of_decide_eq_true (List.all_eq_true.1 h1 c h), fun h => of_decide_eq_true (List.all_eq_true.1 h2 c h)⟩
theorem find_D (nm : List UInt8) : findP cmdsD nm = findP cmdsP nm := by
  apply Option.ext
  intro c
  rw [find_iff cmdsD nm c (by decide +kernel), find_iff cmdsP nm c (by decide +kernel), mem_D]
theorem line_D (ws : List (List UInt8)) : lineW cmdsD ws = lineW cmdsP ws := by
  cases ws with
  | nil => rfl
  | cons nm r => simp only [lineW, find_D]
end Go.Proofs.YtemcigoelcblbaaGreatDoor
