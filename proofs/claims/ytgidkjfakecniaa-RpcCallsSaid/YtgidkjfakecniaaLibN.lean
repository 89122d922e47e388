/-
  Structs compared: a struct's fields as rows of name, type and place.
-/
import Derived.Test.YtgidkjfakecniaaLibM
import Derived.Laws.StructEq
namespace Go.Proofs.Ytgidkjfakecniaa
open Go.RowKit

def eqRows (d : Nat) (xs ys : Array Value) : List (Bool × TypeId × Nat) → Sem Bool
  | [] => pure true
  | (b, t, o) :: fs => if b then do
      let a ← part t xs o
      let c ← part t ys o
      let r ← Op.equalIn d t a c
      if (!r) = true then pure false else eqRows d xs ys fs
    else eqRows d xs ys fs
def fieldRows (P : Program) (t : TypeId) : List (Bool × TypeId × Nat) := (P.fieldsOf t).toList.map fun f => (f.name != "_", f.type, f.offset)
theorem eqFields_rows (d : Nat) (xs ys : Array Value) : ∀ fs : List Field, Op.eqFields d xs ys fs = eqRows d xs ys (fs.map fun f => (f.name != "_", f.type, f.offset))
  | [] => rfl
  | f :: fs => by
    simp only [Op.eqFields, List.map_cons, eqRows]
    rw [eqFields_rows d xs ys fs]
    by_cases h : f.name = "_" <;> simp [h]
theorem run_equal_rows {P : Program} {rows : List (Bool × TypeId × Nat)} (w : World) (d : Nat) (t : TypeId) (xs ys : Array Value) (ht : P.underlying t = some (.struct (P.fieldsOf t))) (hp : P.stoodInHeld t = false) (hr : fieldRows P t = rows) :
    (Op.equalIn (d + 1) t (.agg xs) (.agg ys)).run P w = (eqRows d xs ys rows).run P w := by
  rw [run_equalIn_struct w d t xs ys ht hp, eqFields_rows]
  unfold fieldRows at hr
  rw [hr]
theorem run_neq_of {P : Program} {t : TypeId} {xs ys : Array Value} {w : World} {b : Bool} (h : (Op.equalIn 10000 t (.agg xs) (.agg ys)).run P w = .ok b w) : (binOp .neq t (.agg xs) (.agg ys)).run P w = .ok (.bool (!b)) w := by
  rw [run_neq_struct, h]
  rfl
theorem run_eql_of {P : Program} {t : TypeId} {xs ys : Array Value} {w : World} {b : Bool} (h : (Op.equalIn 10000 t (.agg xs) (.agg ys)).run P w = .ok b w) : (binOp .eql t (.agg xs) (.agg ys)).run P w = .ok (.bool b) w := by
  rw [run_eql_struct, h]
  rfl
end Go.Proofs.Ytgidkjfakecniaa
