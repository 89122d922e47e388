/-
  Facts that stay: 'Keeps w F': F holds of w and of every later world that leaves what w has. Many facts in one hypothesis, carried over a call by one row.
-/
import Derived.Test.YtgidkjfakecniaaLibF
namespace Go.Proofs.Ytgidkjfakecniaa
open Go.RowKit

def Keeps (w : World) (F : World → Prop) : Prop := ∀ w', Below w.heap.size w w' → F w'

section
variable {w w' : World} {F G : World → Prop} {base e size n c B : Nat} {A : Option Addr} {xs : List Value}
theorem Keeps.now (h : Keeps w F) : F w := h w (Below.refl _ _)
theorem Keeps.at_ (h : Keeps w F) (hb : Below w.heap.size w w') : F w' := h w' hb
theorem Keeps.on (h : Keeps w F) (hb : Below w.heap.size w w') : Keeps w' F := fun _ h2 => h _ (hb.trans (h2.mono hb.size))
theorem Keeps.drew (h : Keeps w F) : Keeps w.drew F := h.on (Below.refl _ w).drew
theorem Keeps.drewN (h : Keeps w F) (k : Nat) : Keeps (w.drewN k) F := h.on (below_drewN (Below.refl _ w) k)
theorem Keeps.alloc (h : Keeps w F) (o : Obj) : Keeps (w.alloc o) F := h.on ((Below.refl _ w).alloc (Nat.le_refl _) o)
theorem Keeps.and (h : Keeps w F) (k : Keeps w G) : Keeps w (fun w => F w ∧ G w) := fun _ hb => ⟨h _ hb, k _ hb⟩
theorem Keeps.imp (h : Keeps w F) (k : ∀ w', F w' → G w') : Keeps w G := fun _ hb => k _ (h _ hb)
theorem Keeps.fst (h : Keeps w (fun w => F w ∧ G w)) : Keeps w F := h.imp fun _ h => h.1
theorem Keeps.snd (h : Keeps w (fun w => F w ∧ G w)) : Keeps w G := h.imp fun _ h => h.2
theorem Reads.keeps (h : Reads w B size A n xs) (hB : B ≤ w.heap.size) : Keeps w (fun w => Reads w w.heap.size size A n xs) :=
  fun _ hb => (h.below (hb.mono hB)).more (Nat.le_trans hB hb.size)
theorem Own.keeps (h : Own w base e size A n c xs) : Keeps w (fun w => Own w base e size A n c xs) := fun _ hb => h.below hb (Nat.le_refl _)
/-- A row of the call's own, as one that is read alone. -/
theorem Own.keepsR (h : Own w base e size A n c xs) : Keeps w (fun w => Reads w w.heap.size size A n xs) := h.reads.keeps (Nat.le_refl _)
theorem Blk.keeps {g t : Nat} {cs : Array Value} (h : Blk w g t cs) : Keeps w (fun w => Blk w g t cs) := fun _ hb => h.below hb h.lt
theorem below_keeps {w0 : World} (h : Below B w0 w) (hB : B ≤ w.heap.size) : Keeps w (fun w => Below B w0 w) := fun _ hb => h.trans (hb.mono hB)
theorem Keeps.start (w : World) : Keeps w (fun w' => Below w.heap.size w w') := below_keeps (Below.refl w.heap.size w) (Nat.le_refl _)
theorem Keeps.pure_ {p : Prop} (w : World) (h : p) : Keeps w (fun _ => p) := fun _ _ => h
/-- Behind an append onto a row that the call has made since w. -/
theorem below_app {a : World} {A : Option Addr} {w1 : World} (hb : Below B a w) (hB : B ≤ w.heap.size) (ho : Own w base e size A n c xs) (hbase : B ≤ base) (hu : Upd (fun k => blockOf A = some k) w w1) : Below B a w1 :=
  hb.trans (hu.to_below hB (fun i hi e => by have := (ho.ge _ e).1; omega))
end
end Go.Proofs.Ytgidkjfakecniaa
