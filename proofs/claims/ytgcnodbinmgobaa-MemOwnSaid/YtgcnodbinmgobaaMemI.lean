/- two tables side by side -/
import Derived.Test.YtgcnodbinmgobaaMemH
namespace Go.Proofs.Ytgcnodbinmgobaa
open Go.RowKit

/-- Two tables, their blocks apart, all from B on. -/
def Two (w : World) (B T U : Nat) (l l' : List Ent) : Prop := ∃ F G, Tbl w T l F ∧ Tbl w U l' G ∧ (∀ k, F k → ¬ G k) ∧ (∀ k, F k → B ≤ k) ∧ ∀ k, G k → B ≤ k
theorem Two.below {w w' : World} {B T U : Nat} {l l' : List Ent} (h : Two w B T U l l') (hb : Below w.heap.size w w') : Two w' B T U l l' := by
  obtain ⟨F, G, h1, h2, h3⟩ := h
  exact ⟨F, G, h1.below hb, h2.below hb, h3⟩
theorem Two.keeps {w : World} {B T U : Nat} {l l' : List Ent} (h : Two w B T U l l') : Keeps w (fun w => Two w B T U l l') := fun _ hb => h.below hb
theorem Two.flip {w : World} {B T U : Nat} {l l' : List Ent} (h : Two w B T U l l') : Two w B U T l' l := by
  obtain ⟨F, G, h1, h2, h3, h4, h5⟩ := h
  exact ⟨G, F, h2, h1, fun k hg hf => h3 k hf hg, h5, h4⟩
/-- Blocks of other types stay. -/
def PastB (w w' : World) : Prop := ∀ (g t : Nat) (cs : Array Value), t ≠ 53 → t ≠ 54 → t ≠ 51 → Blk w g t cs → Blk w' g t cs
theorem Tbl.pastB {w w' : World} {T : Nat} {l : List Ent} {F : Nat → Prop} (h : Tbl w T l F) (hu : Upd F w w') : PastB w w' := by
  obtain ⟨hb, ns, h, rfl, rfl⟩ := h
  intro g t cs h1 h2 h3 hg
  exact hg.upd hu (h.tab.notFoot hg h1 h2 h3)
theorem put_two (B T U : Nat) (l l' : List Ent) (x : Ent) (height : Int) (w : World) (h : Two w B T U l l') (hlen : l.length ≤ 1000) (hB : B ≤ w.heap.size) :
    Calls Try.prog 9 #[.pointer (some ⟨T, 0, none⟩), .agg #[.string x.key, .int .i64 x.seq, .bool x.del, .string x.val], .int .i64 height] w fun r w' =>
      r = .returned (.int .i64 (putL l x).2) ∧ Two w' B T U (putL l x).1 l' ∧ Below B w w' ∧ PastB w w' := by
  obtain ⟨F, G, h1, h2, h3, h4, h5⟩ := h
  refine (put_t T l F x height w h1 hlen).mono ?_
  rintro r w' ⟨k1, F', k2, k3, k4⟩
  refine ⟨k1, ⟨F', G, k2, h2.upd k4 (fun k hk hf => h3 k hf hk), fun k hf hg => (k3 k hf).elim (fun h => h3 k h hg) (fun h => ?_), fun k hk => (k3 k hk).elim (h4 k) (fun h => by omega), h5⟩, k4.to_below hB fun k hk hF => by have := h4 k hF; omega, h1.pastB k4⟩
  have := h2.lt k hg
  omega
theorem get_two (B T U : Nat) (l l' : List Ent) (key : ByteArray) (s : Int) (w : World) (h : Two w B T U l l') :
    Calls Try.prog 10 #[.pointer (some ⟨T, 0, none⟩), .string key, .int .i64 s] w fun e w' =>
      e = .returned (.tuple #[(getE (getL l key s)).agg, .bool (getL l key s).isSome]) ∧ Below w.heap.size w w' := by
  obtain ⟨F, G, h1, _⟩ := h
  exact get_t T l F key s w h1
theorem all_two (B T U : Nat) (l l' : List Ent) (w : World) (h : Two w B T U l l') (hlen : l.length ≤ 1000) :
    Calls Try.prog 12 #[.pointer (some ⟨T, 0, none⟩)] w fun e w' => ∃ A c, e = .returned (.slice A l.length c) ∧ Own w' w.heap.size 28 4 A l.length c (ents l) ∧ Below w.heap.size w w' := by
  obtain ⟨F, G, h1, _⟩ := h
  exact all_t T l F w h1 hlen
theorem len_two (B T U : Nat) (l l' : List Ent) (w : World) (h : Two w B T U l l') :
    Calls Try.prog 13 #[.pointer (some ⟨T, 0, none⟩)] w fun e w' => e = .returned (.int .i64 l.length) ∧ w = w' := by
  obtain ⟨F, G, h1, _⟩ := h
  exact len_t T l F w h1
theorem bytes_two (B T U : Nat) (l l' : List Ent) (w : World) (h : Two w B T U l l') :
    Calls Try.prog 14 #[.pointer (some ⟨T, 0, none⟩)] w fun e w' => e = .returned (.int .i64 (bytesL l)) ∧ w = w' := by
  obtain ⟨F, G, h1, _⟩ := h
  exact bytes_t T l F w h1
end Go.Proofs.Ytgcnodbinmgobaa
