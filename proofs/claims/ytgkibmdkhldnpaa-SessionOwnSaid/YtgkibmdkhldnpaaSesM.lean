/- A session's table as plain data, and as the cells of its block. -/
import Derived.Test.YtgkibmdkhldnpaaLibB
namespace Go.Proofs.Ytgkibmdkhldnpaa
open Go.RowKit

structure Rob where
  ep : Int
  dl : Int
  st : Int
  ra : Option Addr
  rn : Nat
  rc : Nat
  told : Bool
  cell : Int
  tick : Int

def Rob.zero : Rob := ⟨0, 0, 0, none, 0, 0, false, 0, 0⟩
def Rob.get (x : Rob) : Nat → Value
  | 0 => .int .i64 x.ep
  | 1 => .int .i64 x.dl
  | 2 => .int .i64 x.st
  | 3 => .slice x.ra x.rn x.rc
  | 4 => .bool x.told
  | 5 => .int .i64 x.cell
  | _ => .int .i64 x.tick
def tabCells (f : Nat → Rob) : Array Value := Array.ofFn (n := 112) fun i => (f (i.val / 7)).get (i.val % 7)
def upd (f : Nat → Rob) (r : Nat) (x : Rob) : Nat → Rob := fun i => if i = r then x else f i
/-- Block g is this table. -/
def Tab (w : World) (g : Nat) (f : Nat → Rob) : Prop := Blk w g 55 (tabCells f)

theorem tabCells_size (f : Nat → Rob) : (tabCells f).size = 112 := by simp [tabCells]
theorem tabCells_get (f : Nat → Rob) (r j : Nat) (hr : r < 16) (hj : j < 7) : (tabCells f)[r * 7 + j]? = some ((f r).get j) := by
  have h1 : (r * 7 + j) / 7 = r := by omega
  have h2 : (r * 7 + j) % 7 = j := by omega
  simp [tabCells, show r * 7 + j < 112 by omega, h1, h2]
theorem tabCells_ext {f : Nat → Rob} {cs : Array Value} (hs : cs.size = 112) (h : ∀ r j, r < 16 → j < 7 → cs[r * 7 + j]? = some ((f r).get j)) : cs = tabCells f := by
  apply Array.ext
  · rw [hs, tabCells_size]
  · intro i h1 h2
    have := h (i / 7) (i % 7) (by omega) (by omega)
    have h3 := tabCells_get f (i / 7) (i % 7) (by omega) (by omega)
    rw [show i / 7 * 7 + i % 7 = i by omega] at this h3
    rw [Array.getElem?_eq_getElem h1] at this
    rw [Array.getElem?_eq_getElem h2] at h3
    exact Option.some.inj (this.trans h3.symm)
theorem tabCells_set (f : Nat → Rob) (r j : Nat) (v : Value) (x : Rob) (hr : r < 16) (hj : j < 7) (hv : x.get j = v) (ho : ∀ i, i < 7 → i ≠ j → x.get i = (f r).get i) :
    (tabCells f).setIfInBounds (r * 7 + j) v = tabCells (upd f r x) := by
  refine tabCells_ext (by simp [tabCells_size]) fun r' j' hr' hj' => ?_
  rw [Array.getElem?_setIfInBounds]
  split
  · rename_i h
    have h1 : r' = r := by omega
    have h2 : j' = j := by omega
    subst h1 h2
    simp [tabCells_size, upd, hv]
    omega
  · rename_i h
    rw [tabCells_get f r' j' hr' hj']
    unfold upd
    split
    · rename_i e
      subst e
      rw [ho j' hj' (by rintro rfl; exact h rfl)]
    · rfl
theorem Tab.at_ {w : World} {g : Nat} {f : Nat → Rob} (h : Tab w g f) (r j : Nat) (hr : r < 16) (hj : j < 7) : w.cell? ⟨g, r * 7 + j, none⟩ = some ((f r).get j) := by
  rw [Blk.cell h, tabCells_get f r j hr hj]
theorem Tab.at0 {w : World} {g : Nat} {f : Nat → Rob} (h : Tab w g f) (r : Nat) (hr : r < 16) : w.cell? ⟨g, r * 7, none⟩ = some (.int .i64 (f r).ep) := h.at_ r 0 hr (by omega)
theorem Tab.at1 {w : World} {g : Nat} {f : Nat → Rob} (h : Tab w g f) (r : Nat) (hr : r < 16) : w.cell? ⟨g, r * 7 + 1, none⟩ = some (.int .i64 (f r).dl) := h.at_ r 1 hr (by omega)
theorem Tab.at2 {w : World} {g : Nat} {f : Nat → Rob} (h : Tab w g f) (r : Nat) (hr : r < 16) : w.cell? ⟨g, r * 7 + 2, none⟩ = some (.int .i64 (f r).st) := h.at_ r 2 hr (by omega)
theorem Tab.at3 {w : World} {g : Nat} {f : Nat → Rob} (h : Tab w g f) (r : Nat) (hr : r < 16) : w.cell? ⟨g, r * 7 + 3, none⟩ = some (.slice (f r).ra (f r).rn (f r).rc) := h.at_ r 3 hr (by omega)
theorem Tab.at4 {w : World} {g : Nat} {f : Nat → Rob} (h : Tab w g f) (r : Nat) (hr : r < 16) : w.cell? ⟨g, r * 7 + 4, none⟩ = some (.bool (f r).told) := h.at_ r 4 hr (by omega)
theorem Tab.at5 {w : World} {g : Nat} {f : Nat → Rob} (h : Tab w g f) (r : Nat) (hr : r < 16) : w.cell? ⟨g, r * 7 + 5, none⟩ = some (.int .i64 (f r).cell) := h.at_ r 5 hr (by omega)
theorem Tab.at6 {w : World} {g : Nat} {f : Nat → Rob} (h : Tab w g f) (r : Nat) (hr : r < 16) : w.cell? ⟨g, r * 7 + 6, none⟩ = some (.int .i64 (f r).tick) := h.at_ r 6 hr (by omega)
theorem Tab.fz {w : World} {g : Nat} {f : Nat → Rob} (h : Tab w g f) (i : Nat) : w.frozen? ⟨g, i, none⟩ = false := Blk.frozen h i
theorem Tab.set_ {w : World} {g : Nat} {f : Nat → Rob} (h : Tab w g f) (r j : Nat) (v : Value) (x : Rob) (hr : r < 16) (hj : j < 7) (hv : x.get j = v) (ho : ∀ i, i < 7 → i ≠ j → x.get i = (f r).get i) :
    Tab (w.setCell ⟨g, r * 7 + j, none⟩ v) g (upd f r x) := by
  have := Blk.set_ h (r * 7 + j) v
  rwa [tabCells_set f r j v x hr hj hv ho] at this
theorem Tab.congr {w : World} {g : Nat} {f f' : Nat → Rob} (h : Tab w g f) (e : ∀ r, r < 16 → f r = f' r) : Tab w g f' := by
  have : tabCells f = tabCells f' := tabCells_ext (tabCells_size f) fun r j hr hj => by rw [tabCells_get f r j hr hj, e r hr]
  unfold Tab at *
  rwa [this] at h
theorem Tab.upd_ {S : Nat → Prop} {w w' : World} {g : Nat} {f : Nat → Rob} (h : Tab w g f) (hb : Upd S w w') (hg : ¬ S g) : Tab w' g f := Blk.upd h hb hg
theorem Tab.all {w : World} {g : Nat} {f : Nat → Rob} (h : Tab w g f) (r : Nat) (hr : r < 16) :
    w.cell? ⟨g, r * 7, none⟩ = some (.int .i64 (f r).ep) ∧ w.cell? ⟨g, r * 7 + 1, none⟩ = some (.int .i64 (f r).dl) ∧ w.cell? ⟨g, r * 7 + 2, none⟩ = some (.int .i64 (f r).st) ∧ w.cell? ⟨g, r * 7 + 3, none⟩ = some (.slice (f r).ra (f r).rn (f r).rc) ∧
    w.cell? ⟨g, r * 7 + 4, none⟩ = some (.bool (f r).told) ∧ w.cell? ⟨g, r * 7 + 5, none⟩ = some (.int .i64 (f r).cell) ∧ w.cell? ⟨g, r * 7 + 6, none⟩ = some (.int .i64 (f r).tick) ∧
    w.frozen? ⟨g, r * 7, none⟩ = false ∧ w.frozen? ⟨g, r * 7 + 1, none⟩ = false ∧ w.frozen? ⟨g, r * 7 + 2, none⟩ = false ∧ w.frozen? ⟨g, r * 7 + 3, none⟩ = false ∧ w.frozen? ⟨g, r * 7 + 4, none⟩ = false ∧ w.frozen? ⟨g, r * 7 + 5, none⟩ = false ∧ w.frozen? ⟨g, r * 7 + 6, none⟩ = false :=
  ⟨h.at0 r hr, h.at1 r hr, h.at2 r hr, h.at3 r hr, h.at4 r hr, h.at5 r hr, h.at6 r hr, h.fz _, h.fz _, h.fz _, h.fz _, h.fz _, h.fz _, h.fz _⟩
/-- Of the blocks that were there only the table's has turned. -/
abbrev One (g : Nat) (w w' : World) : Prop := Upd (fun k => k = g) w w'
theorem One.set {g : Nat} {a w : World} (h : One g a w) (i : Nat) (u : Value) : One g a (w.setCell ⟨g, i, none⟩ u) := Upd.setCell h (p := ⟨g, i, none⟩) (fun _ => rfl) u
theorem upd_upd (f : Nat → Rob) (r : Nat) (x y : Rob) : upd (upd f r x) r y = upd f r y := by
  funext i; unfold upd; split <;> rfl
theorem upd_same (f : Nat → Rob) (r : Nat) (x : Rob) : upd f r x r = x := by simp [upd]
theorem upd_ne (f : Nat → Rob) (r i : Nat) (x : Rob) (h : i ≠ r) : upd f r x i = f i := by simp [upd, h]
theorem Tab.put {w : World} {g : Nat} {f : Nat → Rob} (h : Tab w g f) (r : Nat) (x : Rob) (hr : r < 16) :
    Tab (((((((w.setCell ⟨g, r * 7, none⟩ (.int .i64 x.ep)).setCell ⟨g, r * 7 + 1, none⟩ (.int .i64 x.dl)).setCell ⟨g, r * 7 + 2, none⟩ (.int .i64 x.st)).setCell ⟨g, r * 7 + 3, none⟩ (.slice x.ra x.rn x.rc)).setCell ⟨g, r * 7 + 4, none⟩ (.bool x.told)).setCell
      ⟨g, r * 7 + 5, none⟩ (.int .i64 x.cell)).setCell ⟨g, r * 7 + 6, none⟩ (.int .i64 x.tick)) g (upd f r x) := by
  have t0 := h.set_ r 0 (.int .i64 x.ep) { f r with ep := x.ep } hr (by omega) rfl (by intro i hi hne; rcases i with _ | _ | _ | _ | _ | _ | _ | i <;> first | rfl | omega)
  have t1 := t0.set_ r 1 (.int .i64 x.dl) { f r with ep := x.ep, dl := x.dl } hr (by omega) rfl (by intro i hi hne; rw [upd_same]; rcases i with _ | _ | _ | _ | _ | _ | _ | i <;> first | rfl | omega)
  have t2 := t1.set_ r 2 (.int .i64 x.st) { f r with ep := x.ep, dl := x.dl, st := x.st } hr (by omega) rfl (by intro i hi hne; rw [upd_same]; rcases i with _ | _ | _ | _ | _ | _ | _ | i <;> first | rfl | omega)
  have t3 := t2.set_ r 3 (.slice x.ra x.rn x.rc) { f r with ep := x.ep, dl := x.dl, st := x.st, ra := x.ra, rn := x.rn, rc := x.rc } hr (by omega) rfl (by intro i hi hne; rw [upd_same]; rcases i with _ | _ | _ | _ | _ | _ | _ | i <;> first | rfl | omega)
  have t4 := t3.set_ r 4 (.bool x.told) { x with cell := (f r).cell, tick := (f r).tick } hr (by omega) rfl (by intro i hi hne; rw [upd_same]; rcases i with _ | _ | _ | _ | _ | _ | _ | i <;> first | rfl | omega)
  have t5 := t4.set_ r 5 (.int .i64 x.cell) { x with tick := (f r).tick } hr (by omega) rfl (by intro i hi hne; rw [upd_same]; rcases i with _ | _ | _ | _ | _ | _ | _ | i <;> first | rfl | omega)
  have t6 := t5.set_ r 6 (.int .i64 x.tick) x hr (by omega) rfl (by intro i hi hne; rw [upd_same]; rcases i with _ | _ | _ | _ | _ | _ | _ | i <;> first | rfl | omega)
  simpa only [upd_upd, Nat.add_zero] using t6
theorem One.put {w w' : World} {g : Nat} (h : One g w w') (r : Nat) (x : Rob) :
    One g w (((((((w'.setCell ⟨g, r * 7, none⟩ (.int .i64 x.ep)).setCell ⟨g, r * 7 + 1, none⟩ (.int .i64 x.dl)).setCell ⟨g, r * 7 + 2, none⟩ (.int .i64 x.st)).setCell ⟨g, r * 7 + 3, none⟩ (.slice x.ra x.rn x.rc)).setCell ⟨g, r * 7 + 4, none⟩ (.bool x.told)).setCell
      ⟨g, r * 7 + 5, none⟩ (.int .i64 x.cell)).setCell ⟨g, r * 7 + 6, none⟩ (.int .i64 x.tick)) :=
  One.set (One.set (One.set (One.set (One.set (One.set (One.set h _ _) _ _) _ _) _ _) _ _) _ _) _ _
end Go.Proofs.Ytgkibmdkhldnpaa
