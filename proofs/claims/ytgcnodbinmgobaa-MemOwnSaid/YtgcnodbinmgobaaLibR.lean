/-
  In a round of a range over a function: a region that draws its order and only reads, walked once (the wide fence).
-/
import Derived.Test.YtgcnodbinmgobaaLibO
import Derived.Deep.QuietTactic
import Derived.OrdersIn
import Derived.TacticsIn
import Derived.RangeFuncCalls
import Derived.BigQuiet
namespace Go.Proofs.Ytgcnodbinmgobaa
open Go.RowKit

section
variable {P : Program} {C : World → Prop} {md : Region.Mode} {ops : Array Oper} {l n : Nat}
theorem wpIn_of_quiet {o : Oper} {a : Act} {K : Act → Prop} {K' : Act → World → Prop} {Q' : Exit → Act → World → Prop} {w : World} (hd : ∀ c, o.op ≠ .defer c) (hw : C w) (h : ∀ a w', C w' → K a → K' a w') (hh : o.quiet P a C K) : o.wpIn (Fence.wide.inRound l) n P a w K' Q' := by
  obtain ⟨v, h1, h2⟩ := hh
  have h3 := h1 w hw
  unfold Oper.quietAt at h3
  unfold Oper.wpIn
  refine ⟨fun _ _ => trivial, ?_⟩
  rw [show (Fence.wide.inRound l).round = some l from rfl, Oper.semAt_some l _ o hd]
  generalize (execOp a.eval o).run P w = r at *
  cases r with
  | ok x w' =>
    cases x <;> simp only [Oper.quietUpon] at h3 <;> simp only [Oper.uponIn]
    case value u =>
      obtain ⟨e1, e2⟩ := h3
      rw [e1, e2]
      exact h _ _ hw h2
    case skip =>
      obtain ⟨e1, e2⟩ := h3
      rw [e1, ← e2]
      exact h _ _ hw h2
    case enter f args =>
      obtain ⟨e1, hc⟩ := h3
      rw [e1]
      refine ⟨fun h => (by cases h), CallsIn.inRound l (callsIn_wide.2 (hc.mono fun e w'' ⟨he, hw''⟩ => ?_))⟩
      subst he
      exact h _ _ hw'' h2
  | halt x w' => simp only [Oper.quietUpon] at h3
theorem wpOpIn_of_qOp {i : Nat} {a : Act} {K : Act → Prop} {K' : Act → World → Prop} {Q' : Exit → Act → World → Prop} {w : World} (hd : ∀ o ∈ ops.toList, ∀ c, o.op ≠ .defer c) (hC : C w) (h : ∀ a w', C w' → K a → K' a w') (hh : qOp P ops C i K a) : wpOpIn (Fence.wide.inRound l) n P ops Q' i K' a w := by
  unfold qOp at hh
  unfold wpOpIn
  split
  · rename_i ho; simp only [ho] at hh; exact h _ _ hC hh
  · rename_i o ho
    simp only [ho] at hh
    split
    · rename_i hw
      simp only [hw, if_true] at hh
      exact wpIn_of_quiet (hd o (List.mem_of_getElem? (by rw [Array.getElem?_toList]; exact ho))) hC h hh
    · rename_i hw; simp only [hw] at hh; exact ⟨fun _ _ => trivial, h _ _ hC hh⟩
theorem wpAnyIn_of_quiet (hd : ∀ o ∈ ops.toList, ∀ c, o.op ≠ .defer c) {Q : Act → Prop} {Q' : Exit → Act → World → Prop} (hQ : ∀ a w, C w → Q a → Q' .normal a w) : ∀ (fuel : Nat) (listed : Array Bool) (a : Act) (w : World), C w →
    wpAnyQ P md ops C Q fuel listed a → wpAnyIn (Fence.wide.inRound l) n P md ops Q' fuel listed a w
  | 0, _, _, _, hw, h => ⟨h.1, hQ _ _ hw h.2⟩
  | fuel + 1, _, _, _, hw, h => ⟨fun h0 => hQ _ _ hw (h.1 h0), fun i hi => wpOpIn_of_qOp hd hw (fun a' w' hw' => wpAnyIn_of_quiet hd hQ fuel _ a' w' hw') (h.2 i hi)⟩
def noDefer (l : List Oper) : Bool := l.all fun o => match o.op with | .defer _ => false | _ => true
theorem wpIn_region_quiet_round {id : Nat} {Q : Exit → Act → World → Prop} {a : Act} {w : World} {rows : List Oper} (hm : P.follows .mixedOrders = true) (hB : Region.lexB .any rows.toArray = true) (hd : noDefer rows = true)
    (h : wpQuiet P rows.toArray (fun w' => ∃ n, w' = w.drewN n) (fun a' => ∀ w', (∃ n, w' = w.drewN n) → Q .normal a' w') rows a) : (Code.region id rows.toArray true).wpIn (Fence.wide.inRound l) n P Q a w := by
  simp only [Region.lexB, Bool.and_eq_true] at hB
  have hd' : ∀ o ∈ rows.toArray.toList, ∀ c, o.op ≠ .defer c := by
    intro o ho c hc
    have := List.all_eq_true.1 hd o (by simpa using ho)
    rw [hc] at this
    cases this
  refine wpIn_region_any hm (wpAnyIn_of_quiet (C := fun w' => ∃ n, w' = w.drewN n) hd' (Q := fun a' => ∀ w', (∃ n, w' = w.drewN n) → Q .normal a' w') (fun _ w' hw' h => h w' hw') _ _ _ _ ⟨1, rfl⟩ ?_)
  have := wpAnyQ_lex (P := P) (C := fun w' => ∃ n, w' = w.drewN n) (md := .any) hB.1 rows 0 (Array.replicate rows.toArray.size false) a (by simp) (by simpa using hB.2) h
  simpa using this
end

/-- A function value against nil. -/
theorem equalIn_func_nil {P : Program} {t : TypeId} {ps rs : Array TypeId} {v : Bool} (ht : P.underlying t = some (.func ps rs v)) (d : Nat) (f : Fn) (xs ys : Array Value) (w : World) : (Op.equalIn (d + 1) t (.func f xs ys) .nilFunc).run P w = .ok false w := by
  simp only [Op.equalIn, Sem.run_bind, run_underlying ht, Result.andThen_ok, Sem.run_pure]
theorem run_eql_func_nil {P : Program} {t : TypeId} {ps rs : Array TypeId} {v : Bool} (ht : P.underlying t = some (.func ps rs v)) (f : Fn) (xs ys : Array Value) (w : World) : (binOp .eql t (.func f xs ys) .nilFunc).run P w = .ok (.bool false) w := by
  have h := equalIn_func_nil ht 9999 f xs ys w
  simp only [binOp, Op.equal, Op.maxDepth, h, Sem.run_bind]
  rfl
end Go.Proofs.Ytgcnodbinmgobaa
