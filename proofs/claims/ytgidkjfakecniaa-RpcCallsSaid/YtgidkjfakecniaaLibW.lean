/-
  A map of whole numbers that the call has made: it reads as a function; elements of any type, as they are.
-/
import Derived.Test.YtgidkjfakecniaaLibO
import Derived.Maps.Own
import Derived.Maps.OwnOps
import Derived.Maps.OwnSet
import Derived.Maps.Views
namespace Go.Proofs.Ytgidkjfakecniaa
open Go.RowKit

/-- An element reads as itself. -/
def asIs (v : Value) : Option (DataW Value × List MemPlace) := some (.held v, [])
/-- Block b is a map of at most n keys; the key x has f x, the zero value where there is none. -/
def MapI (w : World) (P : Program) (k : TypeId) (b n : Nat) (z : Value) (f : Int → Value) : Prop :=
  ∃ D : DataW Value, w.ownsMap P k asIs b n D ∧ ∀ x, (Lit.int .i64 x).wf = true → D.atKey (.int .i64 x) (.held z) = .held (f x)

section
variable {P : Program} {w : World} {k e t : TypeId} {b n : Nat} {z : Value} {f : Int → Value}
theorem MapI.made (w : World) (P : Program) (k : TypeId) (z : Value) : MapI (w.alloc (.map #[] 0)) P k w.heap.size 0 z (fun _ => z) :=
  ⟨.map [], World.ownsMap_made w P k asIs, fun _ _ => by simp [DataW.atKey]⟩
theorem MapI.lt (h : MapI w P k b n z f) : b < w.heap.size := by
  obtain ⟨D, h, _⟩ := h
  exact h.lt
theorem MapI.block {w' : World} (h : MapI w P k b n z f) (e : w'.heap[b]? = w.heap[b]?) : MapI w' P k b n z f := by
  obtain ⟨D, ⟨es, clock, hb, F, hs, hD⟩, h2⟩ := h
  exact ⟨D, ⟨es, clock, e.trans hb, F, hs, hD⟩, h2⟩
theorem MapI.below {w' : World} {B : Nat} (h : MapI w P k b n z f) (hb : Below B w w') (hB : b < B) : MapI w' P k b n z f := h.block (hb.block b hB)
theorem MapI.upd {w' : World} {S : Nat → Prop} (h : MapI w P k b n z f) (hu : Upd S w w') (hn : ¬ S b) : MapI w' P k b n z f := h.block (hu.block b h.lt hn)
theorem MapI.keeps (h : MapI w P k b n z f) : Keeps w (fun w => MapI w P k b n z f) := fun _ hb => h.below hb h.lt
theorem MapI.look (h : MapI w P k b n z f) (hk : P.underlying k = some (.int .i64)) (ht : P.underlying t = some (.map k e)) (hz : ∀ w, (zeroValue e).run P w = .ok z w) {x : Int} (hx : (Lit.int .i64 x).wf = true) :
    (Instr.lookup t (.map (some b)) (.int .i64 x) false).run P w = .ok (f x) w := by
  obtain ⟨D, h, h2⟩ := h
  obtain ⟨v, ps, hrun, hv⟩ := h.lookup (Maps.int_keyed hk) ht (hz w) (zd := .held z) (zp := []) rfl (Maps.keyOf_int_mk hk hx)
  rw [h2 x hx] at hv
  simp only [asIs, Option.some.injEq, Prod.mk.injEq, DataW.held.injEq] at hv
  rw [hrun, hv.1]
def put (f : Int → Value) (x : Int) (v : Value) : Int → Value := fun y => if y = x then v else f y
theorem MapI.put_ (h : MapI w P k b n z f) (hk : P.underlying k = some (.int .i64)) (ht : P.underlying t = some (.map k e)) (hn : n < maxLen) {x : Int} (hx : (Lit.int .i64 x).wf = true) (v : Value) :
    ∃ w', (Instr.mapUpdate t (.map (some b)) (.int .i64 x) v).run P w = .ok () w' ∧ MapI w' P k b (n + 1) z (put f x v) ∧ Upd (fun k => k = b) w w' := by
  obtain ⟨D, h, h2⟩ := h
  have hD : Maps.IsMap D := by
    obtain ⟨es, clock, _, _, _, rfl⟩ := h
    exact ⟨_, rfl⟩
  obtain ⟨w', h3, h4, h5⟩ := h.update (Maps.int_keyed hk) ht hn (d := .held v) (ps := []) (val := v) (Maps.keyOf_int_mk hk hx) rfl
  refine ⟨w', h3, ⟨_, h4, fun y hy => ?_⟩, (Upd.refl (fun k => k = b) w).grown h5 (fun k e _ => by injection e with e; exact e.symm)⟩
  unfold put
  by_cases e : y = x
  · subst e
    rw [if_pos rfl, Maps.atKey_put_same hD (by simp [WideAt.IsKeyLit])]
  · rw [if_neg e, Maps.atKey_put_other (by intro h; injection h with _ h; exact e h)]
    exact h2 y hy
theorem MapI.drop_ (h : MapI w P k b n z f) (hk : P.underlying k = some (.int .i64)) (ht : P.underlying t = some (.map k e)) {x : Int} (hx : (Lit.int .i64 x).wf = true) (ty : TypeId) :
    ∃ w', (Builtin.delete_ #[t, k] ty #[.map (some b), .int .i64 x]).run P w = .ok (.tuple #[]) w' ∧ MapI w' P k b n z (put f x z) ∧ Upd (fun k => k = b) w w' := by
  obtain ⟨D, h, h2⟩ := h
  obtain ⟨w', h3, h4, h5⟩ := h.drop (Maps.int_keyed hk) ht (Maps.keyOf_int_mk hk hx) ty
  refine ⟨w', h3, ⟨_, h4, fun y hy => ?_⟩, (Upd.refl (fun k => k = b) w).grown h5.grown (fun k e _ => by injection e with e; exact e.symm)⟩
  unfold put
  by_cases e : y = x
  · subst e
    rw [if_pos rfl, Maps.atKey_del_same]
  · rw [if_neg e, Maps.atKey_del_other (by intro h; injection h with _ h; exact e h)]
    exact h2 y hy
theorem wpList_mapPut {ops : Array Oper} {rest : List Oper} {o : Oper} {a : Act} {Q : Exit → Act → World → Prop} (h : MapI w P k b n z f) (hk : P.underlying k = some (.int .i64)) (ht : P.underlying t = some (.map k e)) (hn : n < maxLen) {x : Int} (hx : (Lit.int .i64 x).wf = true) (v : Value)
    (m q u : Operand) (hgd : o.guard = none) (ho : o.op = .mapUpdate t m q u) (hm : a.eval m = .map (some b)) (hq : a.eval q = .int .i64 x) (hu : a.eval u = v)
    (hK : ∀ w', MapI w' P k b (n + 1) z (put f x v) → Upd (fun k => k = b) w w' → wpList P ops Q rest (a.put o.dst undef) w') : wpList P ops Q (o :: rest) a w := by
  refine wpList_plain hgd fun K' hK' => ?_
  obtain ⟨w', hrun, h1, h2⟩ := h.put_ hk ht hn hx v
  unfold Oper.wp
  simp [execOp, ho, hm, hq, hu, hrun, Result.andThen]
  exact hK' _ _ (hK w' h1 h2)
theorem wpList_mapDel {ops : Array Oper} {rest : List Oper} {o : Oper} {a : Act} {Q : Exit → Act → World → Prop} (h : MapI w P k b n z f) (hk : P.underlying k = some (.int .i64)) (ht : P.underlying t = some (.map k e)) {x : Int} (hx : (Lit.int .i64 x).wf = true)
    (m q : Operand) (hgd : o.guard = none) (ho : o.op = .call { callee := .builtin .delete, args := #[m, q], argTypes := #[t, k] }) (hm : a.eval m = .map (some b)) (hq : a.eval q = .int .i64 x)
    (hK : ∀ w', MapI w' P k b n z (put f x z) → Upd (fun k => k = b) w w' → wpList P ops Q rest (a.put o.dst (.tuple #[])) w') : wpList P ops Q (o :: rest) a w := by
  refine wpList_plain hgd fun K' hK' => ?_
  obtain ⟨w', hrun, h1, h2⟩ := h.drop_ hk ht hx o.type
  unfold Oper.wp
  simp [execOp, ho, resolve, invoke, builtin, hm, hq, hrun, Result.andThen]
  exact hK' _ _ (hK w' h1 h2)
end
end Go.Proofs.Ytgidkjfakecniaa
