/- the script: a list of calls that is handed in -/
import Derived.Test.YtgcnodbinmgobaaMemG
import Derived.Test.YtgcnodbinmgobaaLibO
namespace Go.Proofs.Ytgcnodbinmgobaa
open Go.RowKit

structure Ope where
  ask : Bool
  e : Ent
  h : Int
instance : Inhabited Ope := ⟨⟨false, default, 0⟩⟩
def Ope.cells (o : Ope) : List Value := [.bool o.ask, .string o.e.key, .int .i64 o.e.seq, .bool o.e.del, .string o.e.val, .int .i64 o.h]
theorem ope_len (o : Ope) : o.cells.length = 6 := rfl
theorem ent_len (e : Ent) : e.cells.length = 4 := rfl
theorem ents_flat (l : List Ent) : ents l = flat Ent.cells l := rfl
theorem cells_ent : Try.prog.cellsOf 28 = 4 := by kernel_rfl
theorem cells_ope : Try.prog.cellsOf 30 = 6 := by kernel_rfl
theorem cel_ent {w : World} (n : Nat) (cs : List Value) (h : Cel Try.prog w n 28 cs) : ∃ e : Ent, cs = e.cells ∧ e.key.size ≤ reachBytes ∧ e.val.size ≤ reachBytes ∧ (Lit.int .i64 e.seq).wf = true := by
  obtain ⟨hl, m, hf⟩ := cel_fields (rows := [(9, 0, 1), (3, 1, 1), (4, 2, 1), (9, 3, 1)]) Try.underlying28 cells_ent (by kernel_rfl) h
  match cs, hl with
  | [a, b, c, d], _ =>
    simp only [List.forall_mem_cons, List.drop_zero, List.drop_succ_cons, List.take_succ_cons, List.take_zero] at hf
    obtain ⟨h1, h2, h3, h4, _⟩ := hf
    obtain ⟨k, e1, _, z1⟩ := cel_string Try.underlying9 h1
    obtain ⟨s, e2, z2⟩ := cel_int Try.underlying3 h2
    obtain ⟨b', e3⟩ := cel_bool Try.underlying4 h3
    obtain ⟨v, e4, _, z4⟩ := cel_string Try.underlying9 h4
    simp only [List.cons.injEq, and_true] at e1 e2 e3 e4
    subst e1 e2 e3 e4
    exact ⟨⟨k, s, b', v⟩, rfl, z1, z4, z2⟩
theorem cel_ope {w : World} (n : Nat) (cs : List Value) (h : Cel Try.prog w n 30 cs) : ∃ o : Ope, cs = o.cells ∧ o.e.key.size ≤ reachBytes ∧ o.e.val.size ≤ reachBytes ∧ (Lit.int .i64 o.e.seq).wf = true ∧ (Lit.int .i64 o.h).wf = true := by
  obtain ⟨hl, m, hf⟩ := cel_fields (rows := [(4, 0, 1), (28, 1, 4), (3, 5, 1)]) Try.underlying30 cells_ope (by kernel_rfl) h
  match cs, hl with
  | [a, b, c, d, e, g], _ =>
    simp only [List.forall_mem_cons, List.drop_zero, List.drop_succ_cons, List.take_succ_cons, List.take_zero] at hf
    obtain ⟨h1, h2, h3, _⟩ := hf
    obtain ⟨b', e1⟩ := cel_bool Try.underlying4 h1
    obtain ⟨x, e2, z1, z2, z3⟩ := cel_ent _ _ h2
    obtain ⟨s, e3, z4⟩ := cel_int Try.underlying3 h3
    simp only [List.cons.injEq, and_true, Ent.cells] at e1 e2 e3
    obtain ⟨rfl, rfl, rfl, rfl⟩ := e2
    subst e1 e3
    exact ⟨⟨b', x, s⟩, rfl, z1, z2, z3, z4⟩
theorem val_ops {w : World} {v : Value} (h : Val Try.prog w 22 v) : ∃ A n c l, v = .slice A n c ∧ Reads w w.heap.size 6 A n (flat Ope.cells l) ∧ n ≤ c ∧ c ≤ 140737488355328 := by
  obtain ⟨A, n, c, l, rfl, hr, _, hnc, _, hb⟩ := val_flat (Q := fun _ _ => True) Try.underlying22 cells_ope (by omega) ope_len (fun n cs h => (cel_ope n cs h).imp fun _ h => ⟨h.1, trivial⟩) h
  have e : Try.prog.bytesOf 30 = 64 := by kernel_rfl
  rw [e] at hb
  unfold reachBytes at hb
  exact ⟨A, n, c, l, rfl, hr, hnc, by omega⟩
/-- A call of the script. -/
theorem Reads.ope {w : World} {B n : Nat} {A : Option Addr} {l : List Ope} (h : Reads w B 6 A n (flat Ope.cells l)) {k : Nat} (hk : k < n) : ∃ ad o, A = some ad ∧ ad.block < B ∧ l[k]? = some o ∧
    w.cell? (ad.add (k * 6)) = some (.bool o.ask) ∧ w.cell? ⟨(ad.add (k * 6)).block, (ad.add (k * 6)).off + 1, none⟩ = some (.string o.e.key) ∧ w.cell? ⟨(ad.add (k * 6)).block, (ad.add (k * 6)).off + 2, none⟩ = some (.int .i64 o.e.seq) ∧
    w.cell? ⟨(ad.add (k * 6)).block, (ad.add (k * 6)).off + 3, none⟩ = some (.bool o.e.del) ∧ w.cell? ⟨(ad.add (k * 6)).block, (ad.add (k * 6)).off + 4, none⟩ = some (.string o.e.val) ∧ w.cell? ⟨(ad.add (k * 6)).block, (ad.add (k * 6)).off + 5, none⟩ = some (.int .i64 o.h) := by
  obtain ⟨ad, o, rfl, hb, ho, h0, hj⟩ := h.flat_at ope_len (by omega) hk
  exact ⟨ad, o, rfl, hb, ho, h0, hj 0 (by omega), hj 1 (by omega), hj 2 (by omega), hj 3 (by omega), hj 4 (by omega)⟩
theorem Reads.opeAt {w : World} {B n : Nat} {ad : Addr} {l : List Ope} {o : Ope} (h : Reads w B 6 (some ad) n (flat Ope.cells l)) {k : Nat} (hk : k < n) (ho : l[k]? = some o) :
    w.cell? (ad.add (k * 6)) = some (.bool o.ask) ∧ w.cell? ⟨(ad.add (k * 6)).block, (ad.add (k * 6)).off + 1, none⟩ = some (.string o.e.key) ∧ w.cell? ⟨(ad.add (k * 6)).block, (ad.add (k * 6)).off + 2, none⟩ = some (.int .i64 o.e.seq) ∧
    w.cell? ⟨(ad.add (k * 6)).block, (ad.add (k * 6)).off + 3, none⟩ = some (.bool o.e.del) ∧ w.cell? ⟨(ad.add (k * 6)).block, (ad.add (k * 6)).off + 4, none⟩ = some (.string o.e.val) ∧ w.cell? ⟨(ad.add (k * 6)).block, (ad.add (k * 6)).off + 5, none⟩ = some (.int .i64 o.h) := by
  obtain ⟨ad', o', e, _, ho', hc⟩ := h.ope hk
  injection e with e
  subst e
  rw [ho] at ho'
  injection ho' with ho'
  subst ho'
  exact hc
/-- The entry of a call, loaded whole. -/
theorem Reads.opeE {w : World} {B n : Nat} {ad : Addr} {l : List Ope} {o : Ope} (h : Reads w B 6 (some ad) n (flat Ope.cells l)) {k : Nat} (hk : k < n) (ho : l[k]? = some o) :
    w.cell? ⟨(ad.add (k * 6)).block, (ad.add (k * 6)).off + 1, none⟩ = some (.string o.e.key) ∧ w.cell? ⟨(ad.add (k * 6)).block, (ad.add (k * 6)).off + 1 + 1, none⟩ = some (.int .i64 o.e.seq) ∧
    w.cell? ⟨(ad.add (k * 6)).block, (ad.add (k * 6)).off + 1 + 2, none⟩ = some (.bool o.e.del) ∧ w.cell? ⟨(ad.add (k * 6)).block, (ad.add (k * 6)).off + 1 + 3, none⟩ = some (.string o.e.val) := by
  obtain ⟨ad', o', e, _, ho', _, h1, h2, h3, h4, _⟩ := h.ope hk
  injection e with e
  subst e
  rw [ho] at ho'
  injection ho' with ho'
  subst ho'
  exact ⟨h1, h2, h3, h4⟩
end Go.Proofs.Ytgcnodbinmgobaa
