/-
  Texts joined: JdQ.
-/
import Derived.Test.YtegjoabfoddadaaMJdL1b
/- the book and the judge, plain -/
namespace Go.Proofs.Ytegjoabfoddadaa
structure CallP where
  verb : Int
  epoch : Int
  route : RtP
  deriving DecidableEq
structure RepP where
  code : Int
  epoch : Int
  route : RtP
  deriving DecidableEq
structure BkP where
  eps : List Int
  rts : List RtP
def newB : BkP := ⟨List.replicate 16 0, List.replicate 16 noR⟩
def refusedP (e : Int) : RepP := ⟨e, 0, noR⟩
def isR (r : Int) : Bool := decide (0 ≤ r) && decide (r < 16)
def BkP.ep (b : BkP) (r : Int) : Int := b.eps.getD r.toNat 0
def BkP.rt (b : BkP) (r : Int) : RtP := b.rts.getD r.toNat noR
/-- Is another's present route in the way? -/
def confP (b : BkP) (r : Int) (x : RtP) (tick : Int) : Nat → Nat → Bool
  | 0, _ => false
  | n + 1, k => (decide ((k : Int) ≠ r) && meetR x (cutR (b.rts.getD k noR) tick)) || confP b r x tick n (k + 1)
def BkP.setRt (b : BkP) (r : Int) (x : RtP) : BkP := { b with rts := b.rts.set r.toNat x }
def takeP (m : MapP) (b : BkP) (r : Int) (x : RtP) (tick : Int) : BkP × RepP :=
  if checkR m x ≠ 0 then (b, refusedP (checkR m x)) else if confP b r x tick 16 0 then (b, refusedP 140) else (b.setRt r x, ⟨0, b.ep r, x⟩)
def resvP (m : MapP) (b : BkP) (r : Int) (x now : RtP) (tick : Int) : BkP × RepP :=
  if checkR m x ≠ 0 then (b, refusedP (checkR m x)) else if x.start < tick then (b, refusedP 7) else if 0 < now.cells.length then (b, refusedP 2) else takeP m b r x tick
def applyP (m : MapP) (b : BkP) (r : Int) (c : CallP) (tick : Int) : BkP × RepP :=
  if isR r = false ∨ c.verb < 1 ∨ 6 < c.verb then (b, refusedP 1)
  else if c.verb = 1 then ({ b with eps := b.eps.set r.toNat (b.ep r + 1) }, ⟨0, b.ep r + 1, cutR (b.rt r) tick⟩)
  else if b.ep r = 0 then (b, refusedP 4)
  else if c.verb = 6 then (b, ⟨0, b.ep r, cutR (b.rt r) tick⟩)
  else if b.ep r ≠ c.epoch then (b, refusedP 190)
  else if c.verb = 2 then (b, ⟨0, b.ep r, noR⟩)
  else if c.verb = 3 then resvP m b r c.route (cutR (b.rt r) tick) tick
  else if (cutR (b.rt r) tick).cells.length = 0 then (b, refusedP 4)
  else if c.verb = 4 then takeP m b r ⟨(cutR (b.rt r) tick).start, (cutR (b.rt r) tick).cells ++ c.route.cells⟩ tick
  else (b.setRt r noR, ⟨0, b.ep r, noR⟩)
structure EvP where
  kind : Int
  robot : Int
  id : Int
  tick : Int
  call : CallP
  reply : RepP
/-- What a judge has seen. -/
structure JdS where
  bk : BkP
  asked : Int × Int → Option CallP
  dec : Int × Int → Option RepP
  last : Int → Int
  ans : Int × Int → Bool
  tick : Int
  ticked : Bool
def JdS.new : JdS := ⟨newB, fun _ => none, fun _ => none, fun _ => 0, fun _ => false, 0, false⟩
def upd {α β : Type} [DecidableEq α] (f : α → β) (k : α) (v : β) : α → β := fun x => if x = k then v else f x
/-- The rule that an event breaks, and what the judge has seen behind it (if it breaks none). -/
def decP (m : MapP) (s : JdS) (x : EvP) : JdS × Int :=
  match s.dec (x.robot, x.id), s.asked (x.robot, x.id) with
  | none, some c =>
    if x.reply.code ≠ 0 ∨ (applyP m s.bk x.robot c x.tick).2 ≠ x.reply then ({ s with bk := (applyP m s.bk x.robot c x.tick).1 }, 4)
    else ({ s with bk := (applyP m s.bk x.robot c x.tick).1, dec := upd s.dec (x.robot, x.id) (some x.reply) }, 0)
  | _, _ => (s, 3)
def ansP (s : JdS) (x : EvP) : JdS × Int :=
  if x.id ≠ s.last x.robot ∨ s.asked (x.robot, x.id) = none ∨ s.ans (x.robot, x.id) = true then (s, 5)
  else if (x.reply.code = 0 ∧ s.dec (x.robot, x.id) ≠ some x.reply) ∨ (x.reply.code ≠ 0 ∧ s.dec (x.robot, x.id) ≠ none) then (s, 6)
  else ({ s with ans := upd s.ans (x.robot, x.id) true }, 0)
def seeP (m : MapP) (s : JdS) (x : EvP) : JdS × Int :=
  if 1 ≤ x.kind ∧ x.kind ≤ 3 ∧ isR x.robot = false then (s, 1)
  else if x.kind = 1 then (if x.id ≤ s.last x.robot then (s, 2) else ({ s with last := upd s.last x.robot x.id, asked := upd s.asked (x.robot, x.id) (some x.call) }, 0))
  else if x.kind = 3 then decP m s x
  else if x.kind = 2 then ansP s x
  else if x.kind = 4 then (if s.ticked = true ∧ x.tick < s.tick then (s, 1) else ({ s with tick := x.tick, ticked := true }, 0))
  else (s, 1)
/-- The place and the rule of the first event that breaks one. -/
def goP (m : MapP) : JdS → Nat → List EvP → Int × Int
  | _, _, [] => (0, 0)
  | s, i, x :: l => if (seeP m s x).2 = 0 then goP m (seeP m s x).1 (i + 1) l else ((i : Int), (seeP m s x).2)
def checkP (m : MapP) (l : List EvP) : Int × Int := goP m JdS.new 0 l
/-! ### The document -/
def lastF (l : List EvP) (kind robot id : Int) : Nat → Int
  | 0 => -1
  | n + 1 => match l[n]? with
    | some x => if x.kind = kind ∧ x.robot = robot ∧ (id = 0 ∨ x.id = id) then (n : Int) else lastF l kind robot id n
    | none => -1
def callF (l : List EvP) (robot id : Int) : Nat → Option CallP
  | 0 => none
  | n + 1 => match l[n]? with
    | some x => if x.kind = 1 ∧ x.robot = robot ∧ x.id = id then some x.call else callF l robot id n
    | none => none
/-- The document's conflict: by keys. -/
def confR (b : BkP) (r : Int) (x : RtP) (tick : Int) : Nat → Nat → Bool
  | 0, _ => false
  | n + 1, k => (decide ((k : Int) ≠ r) && commonR x (cutR (b.rts.getD k noR) tick)) || confR b r x tick n (k + 1)
def applyR (m : MapP) (b : BkP) (r : Int) (c : CallP) (tick : Int) : BkP × RepP :=
  if isR r = false ∨ c.verb < 1 ∨ 6 < c.verb then (b, refusedP 1)
  else if c.verb = 1 then ({ b with eps := b.eps.set r.toNat (b.ep r + 1) }, ⟨0, b.ep r + 1, cutR (b.rt r) tick⟩)
  else if b.ep r = 0 then (b, refusedP 4)
  else if c.verb = 6 then (b, ⟨0, b.ep r, cutR (b.rt r) tick⟩)
  else if b.ep r ≠ c.epoch then (b, refusedP 190)
  else if c.verb = 2 then (b, ⟨0, b.ep r, noR⟩)
  else if c.verb = 3 then
    (if checkR m c.route ≠ 0 then (b, refusedP (checkR m c.route)) else if c.route.start < tick then (b, refusedP 7) else if 0 < (cutR (b.rt r) tick).cells.length then (b, refusedP 2)
     else if confR b r c.route tick 16 0 then (b, refusedP 140) else (b.setRt r c.route, ⟨0, b.ep r, c.route⟩))
  else if (cutR (b.rt r) tick).cells.length = 0 then (b, refusedP 4)
  else if c.verb = 5 then (b.setRt r noR, ⟨0, b.ep r, noR⟩)
  else
    (if checkR m ⟨(cutR (b.rt r) tick).start, (cutR (b.rt r) tick).cells ++ c.route.cells⟩ ≠ 0 then (b, refusedP (checkR m ⟨(cutR (b.rt r) tick).start, (cutR (b.rt r) tick).cells ++ c.route.cells⟩))
     else if confR b r ⟨(cutR (b.rt r) tick).start, (cutR (b.rt r) tick).cells ++ c.route.cells⟩ tick 16 0 then (b, refusedP 140)
     else (b.setRt r ⟨(cutR (b.rt r) tick).start, (cutR (b.rt r) tick).cells ++ c.route.cells⟩, ⟨0, b.ep r, ⟨(cutR (b.rt r) tick).start, (cutR (b.rt r) tick).cells ++ c.route.cells⟩⟩))
def ruleR (m : MapP) (l : List EvP) (i : Nat) (b : BkP) (x : EvP) : Int :=
  if (x.kind < 1 ∨ 4 < x.kind) ∨ (x.kind < 4 ∧ isR x.robot = false) then 1
  else
    let asked := lastF l 1 x.robot 0 i
    let greatest := if 0 ≤ asked then ((l[asked.toNat]?).map EvP.id).getD 0 else 0
    let c := callF l x.robot x.id i
    let done := if c.isSome then lastF l 3 x.robot x.id i else -1
    if x.kind = 1 then (if x.id ≤ greatest then 2 else 0)
    else if x.kind = 2 then
      (if c = none ∨ x.id ≠ greatest ∨ 0 ≤ lastF l 2 x.robot x.id i then 5
       else if (x.reply.code = 0 ∧ (done < 0 ∨ (l[(max done 0).toNat]?).map EvP.reply ≠ some x.reply)) ∨ (x.reply.code ≠ 0 ∧ 0 ≤ done) then 6 else 0)
    else if x.kind = 3 then
      (if c = none ∨ 0 ≤ done then 3
       else if x.reply.code ≠ 0 ∨ (applyR m b x.robot (c.getD ⟨0, 0, noR⟩) x.tick).2 ≠ x.reply then 4 else 0)
    else (if (l.take i).any (fun y => decide (y.kind = 4 ∧ x.tick < y.tick)) then 1 else 0)
def bookR (m : MapP) (l : List EvP) (i : Nat) (b : BkP) (x : EvP) : BkP := if x.kind = 3 then (applyR m b x.robot ((callF l x.robot x.id i).getD ⟨0, 0, noR⟩) x.tick).1 else b
def goR (m : MapP) (l : List EvP) : BkP → Nat → List EvP → Int × Int
  | _, _, [] => (0, 0)
  | b, i, x :: r => if ruleR m l i b x ≠ 0 then ((i : Int), ruleR m l i b x) else goR m l (bookR m l i b x) (i + 1) r
def refCheckP (m : MapP) (l : List EvP) : Int × Int := goR m l newB 0 l
end Go.Proofs.Ytegjoabfoddadaa
