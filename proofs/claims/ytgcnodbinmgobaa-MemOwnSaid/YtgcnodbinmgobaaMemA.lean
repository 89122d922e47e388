/- the table in memory; walks: before, New, Len, Bytes -/
import Derived.Test.YtgcnodbinmgobaaRows
import Derived.Test.YtgcnodbinmgobaaMemP
import Derived.Test.YtgcnodbinmgobaaLibM
import Derived.WalkSpells
import Derived.WalkLawsBesides
import Derived.BigQuiet
namespace Go.Proofs.Ytgcnodbinmgobaa
open Go.RowKit

def Ent.cells (e : Ent) : List Value := [.string e.key, .int .i64 e.seq, .bool e.del, .string e.val]
def Ent.agg (e : Ent) : Value := .agg #[.string e.key, .int .i64 e.seq, .bool e.del, .string e.val]
def row (f : Nat → Value) (h : Nat) : Array Value := Array.ofFn (n := h) fun i => f i.val
theorem row_size (f : Nat → Value) (h : Nat) : (row f h).size = h := by simp [row]
theorem row_get (f : Nat → Value) (h i : Nat) (hi : i < h) : (row f h)[i]? = some (f i) := by simp [row, hi]
theorem row_set (f : Nat → Value) (h i : Nat) (v : Value) : (row f h).setIfInBounds i v = row (fun k => if k = i then v else f k) h := by
  apply Array.ext
  · simp [row_size]
  · intro k h1 h2
    have hk : k < h := by rw [row_size] at h2; exact h2
    have e1 := row_get (fun k => if k = i then v else f k) h k hk
    rw [Array.getElem?_eq_getElem h2] at e1
    injection e1 with e1
    rw [e1, Array.getElem_setIfInBounds]
    · have e2 := row_get f h k hk
      rw [Array.getElem?_eq_getElem (by rw [row_size]; exact hk)] at e2
      injection e2 with e2
      by_cases e : k = i
      · rw [if_pos e, if_pos e.symm]
      · rw [if_neg e, if_neg (fun x => e x.symm), e2]
    · rw [row_size]; exact hk
theorem row_congr {f g : Nat → Value} {h : Nat} (e : ∀ i, i < h → f i = g i) : row f h = row g h := by
  apply Array.ext
  · simp [row_size]
  · intro k h1 h2
    have hk : k < h := by rw [row_size] at h2; exact h2
    simp [row, e k hk]

def ptr (b : Nat) : Value := .pointer (some ⟨b, 0, none⟩)
def tops (hb : Nat) (cnt byt : Int) : Array Value := #[.string .empty, .int .i64 0, .bool false, .string .empty, .slice (some ⟨hb, 0, none⟩) 12 12, .int .i64 cnt, .int .i64 byt]
def Nd.cells (n : Nd) : Array Value := #[.string n.e.key, .int .i64 n.e.seq, .bool n.e.del, .string n.e.val, .slice (some ⟨n.nb, 0, none⟩) n.h n.h]

/-- The table's blocks: nx j i is what stands at level i behind the j-th node (0: the head). -/
structure Tab (w : World) (T hb : Nat) (ns : List Nd) (nx : Nat → Nat → Value) (cnt byt : Int) : Prop where
  top : Blk w T 53 (tops hb cnt byt)
  row0 : Blk w hb 54 (row (nx 0) 12)
  node : ∀ (k : Nat) (n : Nd), ns[k]? = some n → Blk w n.b 51 n.cells ∧ Blk w n.nb 54 (row (nx (k + 1)) n.h) ∧ 1 ≤ n.h ∧ n.h ≤ 12 ∧ n.nb ≠ hb
  apart : ∀ (k : Nat) (n : Nd) (k' : Nat) (n' : Nd), ns[k]? = some n → ns[k']? = some n' → k ≠ k' → n.b ≠ n'.b ∧ n.nb ≠ n'.nb
/-- Its blocks. -/
def Foot (T hb : Nat) (ns : List Nd) (k : Nat) : Prop := k = T ∨ k = hb ∨ ∃ n ∈ ns, k = n.b ∨ k = n.nb
theorem Tab.foot_lt {w : World} {T hb : Nat} {ns : List Nd} {nx : Nat → Nat → Value} {cnt byt : Int} (h : Tab w T hb ns nx cnt byt) : ∀ k, Foot T hb ns k → k < w.heap.size := by
  rintro k (rfl | rfl | ⟨n, hn, hk⟩)
  · exact h.top.lt
  · exact h.row0.lt
  · obtain ⟨j, hj⟩ := List.mem_iff_getElem?.1 hn
    obtain ⟨h1, h2, _⟩ := h.node j n hj
    rcases hk with rfl | rfl
    · exact h1.lt
    · exact h2.lt
theorem Tab.upd {w w' : World} {S : Nat → Prop} {T hb : Nat} {ns : List Nd} {nx : Nat → Nat → Value} {cnt byt : Int} (h : Tab w T hb ns nx cnt byt) (hu : Upd S w w') (hs : ∀ k, Foot T hb ns k → ¬ S k) : Tab w' T hb ns nx cnt byt :=
  ⟨h.top.upd hu (hs _ (.inl rfl)), h.row0.upd hu (hs _ (.inr (.inl rfl))),
    fun k n hn => by
      obtain ⟨h1, h2, h3⟩ := h.node k n hn
      have hm := List.mem_of_getElem? hn
      exact ⟨h1.upd hu (hs _ (.inr (.inr ⟨n, hm, .inl rfl⟩))), h2.upd hu (hs _ (.inr (.inr ⟨n, hm, .inr rfl⟩))), h3⟩, h.apart⟩
theorem Tab.below {w w' : World} {T hb : Nat} {ns : List Nd} {nx : Nat → Nat → Value} {cnt byt : Int} (h : Tab w T hb ns nx cnt byt) (hb' : Below w.heap.size w w') : Tab w' T hb ns nx cnt byt :=
  h.upd (Go.Proofs.Ytgcnodbinmgobaa.Below.upd hb') fun _ _ x => x
theorem Tab.keeps {w : World} {T hb : Nat} {ns : List Nd} {nx : Nat → Nat → Value} {cnt byt : Int} (h : Tab w T hb ns nx cnt byt) : Keeps w (fun w => Tab w T hb ns nx cnt byt) := fun _ hb' => h.below hb'

/-- The first behind place j that is higher than i. -/
def nxv (ns : List Nd) (j i : Nat) : Value := match (ns.drop j).find? (fun n => i < n.h) with
  | none => .pointer none
  | some n => ptr n.b
def bytesL (l : List Ent) : Nat := (l.map fun e => e.key.size + e.val.size).sum
structure Mem (w : World) (T hb : Nat) (ns : List Nd) : Prop where
  tab : Tab w T hb ns (nxv ns) ns.length (bytesL (ns.map (·.e)))
  ord : Ordered (ns.map (·.e))
  small : ∀ n ∈ ns, n.e.key.size ≤ 64 ∧ n.e.val.size ≤ 1024
/-- The pointer to the node at place j (0: the head). -/
def at_ (T : Nat) (ns : List Nd) (j : Nat) : Value := match j with
  | 0 => ptr T
  | j + 1 => ptr ((ns[j]?.map (·.b)).getD T)

set_option maxRecDepth 100000 in
set_option maxHeartbeats 1000000 in
theorem before_any (a : Ent) (k : ByteArray) (s : Int) (w : World) :
    Calls Try.prog 23 #[a.agg, .string k, .int .i64 s] w fun e w' => e = .returned (.bool (bfor a k s)) ∧ Below w.heap.size w w' := by
  obtain ⟨r, hr⟩ : ∃ r, r = bfor a k s := ⟨_, rfl⟩
  rw [← hr]
  unfold Ent.agg
  have HR := Lib.hid hr
  clear hr
  have hb := (Below.refl w.heap.size w).alloc (Nat.le_refl _) (.cells #[.string a.key, .int .i64 a.seq, .bool a.del, .string a.val] 28)
  go_enter Try.func23, Try.ntmps23
  cases h1 : Op.bytesLess a.key.toList k.toList with
  | true =>
    go_wp2_with fail
    go_ret
    exact ⟨by rw [HR.out]; simp [bfor, h1], hb⟩
  | false =>
    by_cases h2 : a.key.toList = k.toList
    · obtain rfl := toList_inj h2
      clear h2
      by_cases h4 : s < a.seq
      · go_wp2_with fail
        go_ret
        exact ⟨by rw [HR.out]; simp [bfor, h4], hb⟩
      · go_wp2_with fail
        go_ret
        exact ⟨by rw [HR.out]; simp [bfor, less_irrefl]; omega, hb⟩
    · go_wp2_with fail
      go_ret
      exact ⟨by rw [HR.out]; simp [bfor, h1, h2], hb⟩

theorem len_any (T hb : Nat) (ns : List Nd) (nx : Nat → Nat → Value) (cnt byt : Int) (w : World) (h : Tab w T hb ns nx cnt byt) :
    Calls Try.prog 13 #[.pointer (some ⟨T, 0, none⟩)] w fun e w' => e = .returned (.int .i64 cnt) ∧ w = w' := by
  have hc := h.top.c7
  clear h
  go_enter Try.func13, Try.ntmps13
  go_wp2_with fail
  go_ret
  exact ⟨rfl, rfl⟩
theorem bytes_any (T hb : Nat) (ns : List Nd) (nx : Nat → Nat → Value) (cnt byt : Int) (w : World) (h : Tab w T hb ns nx cnt byt) :
    Calls Try.prog 14 #[.pointer (some ⟨T, 0, none⟩)] w fun e w' => e = .returned (.int .i64 byt) ∧ w = w' := by
  have hc := h.top.c7
  clear h
  go_enter Try.func14, Try.ntmps14
  go_wp2_with fail
  go_ret
  exact ⟨rfl, rfl⟩

theorem elem_nd : Elem Try.prog 49 54 1 8 := elem_of (by kernel_rfl)
theorem zero_nd : (Try.prog.info? 54).bind (·.zero) = some (.pointer none) := by kernel_rfl
theorem make_nd (n : Nat) (hn : n ≤ 12) (w : World) :
    (Instr.makeSlice 49 (.int .i64 (n : Int)) (.int .i64 (n : Int))).run Try.prog w = .ok (.slice (some ⟨w.heap.size, 0, none⟩) n n) (w.alloc (.cells (row (fun _ => .pointer none) n) 54)) := by
  rw [run_make1 (P := Try.prog) elem_nd (.pointer none) zero_nd rfl n (by omega) w]
  congr 3
  apply Array.ext
  · simp [row]
  · intro i h1 h2
    simp [row]

set_option maxRecDepth 100000 in
set_option maxHeartbeats 1000000 in
theorem new_any (w : World) :
    Calls Try.prog 7 #[] w fun e w' => ∃ T hb, e = .returned (ptr T) ∧ Mem w' T hb [] ∧ (∀ k, Foot T hb [] k → w.heap.size ≤ k) ∧ Below w.heap.size w w' := by
  go_enter Try.func7, Try.ntmps7
  have hmk : ∀ w, (Instr.makeSlice 49 (.int .i64 12) (.int .i64 12)).run Try.prog w = .ok (.slice (some ⟨w.heap.size, 0, none⟩) 12 12) (w.alloc (.cells (row (fun _ => .pointer none) 12) 54)) := fun w => make_nd 12 (by omega) w
  go_wp2_with fail
  go_ret
  refine ⟨w.heap.size + 1, w.heap.size, rfl, ⟨⟨?_, ?_, fun k n h => by simp at h, fun k n k' n' h => by simp at h⟩, List.Pairwise.nil, by simp⟩, ?_, ?_⟩
  · exact Blk.new_ (by simp) _ _
  · exact (Blk.new w _ _).alloc _
  · rintro k (rfl | rfl | ⟨n, hn, _⟩)
    · omega
    · omega
    · simp at hn
  · exact ((Below.refl w.heap.size w).alloc (Nat.le_refl _) _).alloc (by simp) _
end Go.Proofs.Ytgcnodbinmgobaa
