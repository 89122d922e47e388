/- the library's iterator over entries: slices.Values's closure -/
import Derived.Test.YtgcnodbinmgobaaMemS
import Derived.RangeFuncNested
import Derived.RangeFuncBound
import Derived.RangeFuncBox
import Derived.RangeFuncCalls
import Derived.RangeFuncLeaves
import Derived.Shelf.Abstract
import Derived.Shelf.RegionOpen
import Derived.OwnWalkIn
import Derived.TacticsInMore
import Derived.LoopNIn
import Derived.LoopIn
namespace Go.Proofs.Ytgcnodbinmgobaa
open Go.RowKit Go.Shelf
attribute [local go_sem] Oper.semAt_some

/-- The cells of these blocks stay. -/
def KC (S : Nat → Prop) (W W' : World) : Prop := W.heap.size ≤ W'.heap.size ∧ ∀ p : Addr, S p.block → W'.cell? p = W.cell? p
theorem KC.refl (S : Nat → Prop) (W : World) : KC S W W := ⟨Nat.le_refl _, fun _ _ => rfl⟩
theorem KC.trans {S : Nat → Prop} {A B C : World} (h : KC S A B) (k : KC S B C) : KC S A C := ⟨Nat.le_trans h.1 k.1, fun p hp => (k.2 p hp).trans (h.2 p hp)⟩
theorem KC.block {S : Nat → Prop} {W W' : World} (hs : W.heap.size ≤ W'.heap.size) (h : ∀ k, S k → W'.heap[k]? = W.heap[k]?) : KC S W W' := ⟨hs, fun p hp => World.cell?_of_block (h p.block hp)⟩
theorem KC.put {S : Nat → Prop} {n : Nat} (hS : ∀ k, S k → k < n) (W : World) (l : Nat) (o o' : Obj) (hl : n ≤ l) (_ : W.heap[l]? = some o) (_ : o.isCells = false) (_ : o.isWalk = false) : KC S W (W.putObj l o') := by
  have hg : W.grownBy (W.putObj l o') (some l) := grownBy_putObj' W l o'
  refine KC.block hg.size fun k hk => ?_
  have hkn := hS k hk
  rcases Nat.lt_or_ge k W.heap.size with h | h
  · exact hg.block k h (fun e => by injection e with e; omega)
  · rw [Array.getElem?_eq_none h]
    apply Array.getElem?_eq_none
    simpa [World.putObj] using h
theorem KC.alloc {S : Nat → Prop} (W : World) (o : Obj) (hS : ∀ k, S k → k < W.heap.size) : KC S W (W.alloc o) := KC.block (by simp) fun k hk => Below.heap_alloc W o k (hS k hk)
theorem KC.set_ {S : Nat → Prop} (W : World) (p : Addr) (v : Value) (hS : ¬ S p.block) : KC S W (W.setCell p v) := KC.block (by simp [World.setCell]) fun k hk => Below.heap_setCell W p v k (fun e => hS (e ▸ hk))
theorem KC.drewN {S : Nat → Prop} (W : World) (n : Nat) : KC S W (W.drewN n) := ⟨Nat.le_refl _, fun _ _ => rfl⟩
theorem Reads.kc {W W' : World} {B size n : Nat} {A : Option Addr} {xs : List Value} {S : Nat → Prop} (h : Reads W B size A n xs) (hA : ∀ k, blockOf A = some k → S k) (hk : KC S W W') : Reads W' B size A n xs := by
  refine ⟨h.1, fun hn => ?_⟩
  obtain ⟨ad, rfl, hb, hc⟩ := h.2 hn
  exact ⟨ad, rfl, hb, fun j u hu => (hk.2 _ (hA _ (by simp [blockOf, block_of_add]))).trans (hc j u hu)⟩

set_option maxRecDepth 100000 in
set_option maxHeartbeats 2000000 in
theorem values1_in (m : Nat) (hm : 1 ≤ m) (lp g n c : Nat) (A : Option Addr) (l : List Ent) (S : Nat → Prop) (hSA : ∀ k, blockOf A = some k → S k) (hn : n ≤ 1000) (J Jx : List Ent → World → Prop)
    (hJ : ∀ (s : List Ent) (W : World) (o : Obj), J s W → J s (W.alloc o))
    (hY : ∀ pre (x : Ent) W, J pre W → pre.length < n → YieldAt Fence.wide (m - 1) Try.prog lp #[x.agg] W fun e W' =>
      (e = .returned (.bool true) ∧ J (pre ++ [x]) W' ∧ KC S W W') ∨ (e = .returned (.bool false) ∧ Jx (pre ++ [x]) W'))
    (W : World) (hSl : ∀ k, S k → k < W.heap.size) (hcell : W.cell? ⟨g, 0, none⟩ = some (.slice A n c)) (hR : Reads W W.heap.size 4 A n (ents l)) (h0 : J [] W) :
    CallsIn Fence.wide m Try.prog 26 #[.func (.yield lp) #[] #[], .pointer (some ⟨g, 0, none⟩)] W fun e W' => (∃ v, e = .returned v) ∧
      ((∃ ys, ys = l ∧ J ys W') ∨ (∃ pre, pre <+: l ∧ Jx pre W')) := by
  have hln := hR.ents_length
  have HLN := Lib.hid hln
  have HR := Lib.hid hR
  have HY := Lib.hid hY
  have HJ := Lib.hid hJ
  have HSA := Lib.hid hSA
  have HSL := Lib.hid hSl
  clear hln hR hY hJ hSA hSl
  refine callsIn_of_wp Try.func26 rfl trivial ?_ rfl
  simp only [Try.ntmps26, List.size_toArray, List.length_cons, List.length_nil, Nat.reduceAdd, Nat.reduceSub, Array.replicate_succ, Array.replicate_zero, List.push_toArray, List.append_toArray, List.nil_append, List.cons_append]
  gi_wp2_with fail
  gi_loopw [7] (fun iv wr => ∃ k : Nat, k ≤ n ∧ iv = .int .i64 k ∧ J (l.take k) wr ∧ KC S W wr) (fun iv _ => n - (intOf iv).toNat)
  case atStart => exact ⟨0, Nat.zero_le _, rfl, h0, KC.refl _ _⟩
  case round =>
    obtain ⟨k, hk, rfl, hJs, hnx⟩ := hrel
    have HJS := Lib.hid hJs
    have HNX := Lib.hid hnx
    clear hJs hnx
    by_cases hkn : (k : Int) < (n : Int)
    · obtain ⟨ad, x, rfl, hab, hx, hc⟩ := (HR.out.kc HSA.out HNX.out).ent (k := k) (by omega)
      have hk0 : (0 : Int) ≤ (k : Int) := by omega
      have hsz := HNX.out.1
      obtain ⟨fn, tmps, assign, body, hy, hRR⟩ := HY.out (l.take k) x (wr.alloc (.cells #[.string x.key, .int .i64 x.seq, .bool x.del, .string x.val] 28)) (HJ.out _ _ _ HJS.out) (by rw [List.length_take]; omega)
      unfold Ent.agg at hy
      have HRR := Lib.hid hRR
      have HXX := Lib.hid hx
      have HNX1 := Lib.hid (HNX.out.trans (KC.alloc wr (.cells #[.string x.key, .int .i64 x.seq, .bool x.del, .string x.val] 28) (fun k hk => Nat.lt_of_lt_of_le (HSL.out k hk) hsz)))
      clear hRR hx hab
      gi_wp2_with fail
      refine HRR.out.mono ?_
      rintro e W3 (⟨rfl, hJ3, hk3⟩ | ⟨rfl, hJx3⟩)
      · have HJ3 := Lib.hid hJ3
        have HK3 := Lib.hid (HNX1.out.trans hk3)
        clear hJ3 hk3 hy hc
        gi_wp2_with fail
        go_roundw
        case rel => exact ⟨k + 1, by omega, by go_num, by rw [List.take_add_one, HXX.out]; exact HJ3.out, HK3.out⟩
        case measure => simp [intOf]; omega
      · gi_wp2_with fail
        refine bodyPost_ret (results_none rfl _ _ _) rfl ?_
        refine ⟨⟨_, rfl⟩, .inr ⟨_, ?_, hJx3⟩⟩
        rw [show l.take k ++ [x] = l.take (k + 1) from by rw [List.take_add_one, HXX.out]; rfl]
        exact List.take_prefix _ _
    · have hke : k = n := by omega
      have hfin : l.take k = l := List.take_of_length_le (by have := HLN.out; omega)
      have HF := Lib.hid hfin
      clear hke hfin
      gi_wp2_with fail
      go_end0
      have h9 := HJS.out
      rw [HF.out] at h9
      exact ⟨⟨_, rfl⟩, .inl h9⟩

/-- A range over a function whose loop variable is boxed by the assign code. -/
theorem wpIn_rangeFunc_box {F : Fence} {n : Nat} {P : Program} {α : Type} {g : Operand} {ps : Array Tmp} {assign body : Code} {Q : Exit → Act → World → Prop} {a : Act} {w : World}
    (hro : F.round = none) (h1 : 1 ≤ n) {gf : Nat} {lb : Array Value} (hg : a.eval g = .func (.func gf) #[] lb) (hFg : F.fn gf) (eg : ∀ args w, (callFunc gf args).run P w = .ok (.enter gf args) w)
    {encs : α → Array Value} {Kp : World → World → Prop} {S Sp : List α → Prop} {N : Nat} {w0 : World} (hseq : SeqStopsK F (n - 1) P gf lb encs Kp S Sp N w0)
    (hKt : ∀ {A B C : World}, Kp A B → Kp B C → Kp A C) (hKb : ∀ (W : World) (l : Nat) (o o' : Obj), w.heap.size ≤ l → W.heap[l]? = some o → o.isCells = false → o.isWalk = false → Kp W (W.putObj l o')) (hb0 : Below w0.heap.size w0 w) (hps : ∀ x, (encs x).size = ps.size)
    (I : List α → World → Prop) (Ix : Code → List α → World → Prop) (hI : OwnFrom w.heap.size I) (hIx : ∀ c, OwnFrom w.heap.size (Ix c)) (h0 : I [] w)
    (a₁ : α → Nat → Act) (t : TypeId) (cells : α → Array Value) (hsz : ∀ pre W, I pre W → w.heap.size ≤ W.heap.size) (hKa : ∀ pre W (o : Obj), I pre W → Kp W (W.alloc o))
    (hassign : ∀ (l : Nat) (x : α) (W : World) (Bx : Nat) (K : Act → World → Prop), Bx = W.heap.size → K (a₁ x Bx) (W.alloc (.cells (cells x) t)) →
      assign.wpIn (F.inRound l) (n - 1 - 1) P (Exit.then K (fun _ _ _ => False)) { tmps := (ps.zip (encs x)).foldl (fun t (p, v) => t.setIfInBounds p v) a.tmps, defers := [] } W)
    (hbody : ∀ (l : Nat) (pre : List α) (x : α) (W : World) (Bx : Nat), w.heap.size ≤ Bx → Blk W Bx t (cells x) → I pre W → pre.length < N →
      body.wpIn (F.inRound l) (n - 1 - 1) P (ownPostG w.heap.size Kp I Ix (pre ++ [x]) W) (a₁ x Bx) W)
    (hdone : ∀ (D : Nat) (xs : List α) (W : World), w.heap.size ≤ D → S xs → I xs W → W.heap[D]? = some (.deferred (some [])) → Q .normal { a with defers := { target := .collected D, args := #[] } :: a.defers } W)
    (hstop : ∀ (D : Nat) (c : Code) (pre : List α) (W : World), w.heap.size ≤ D → Sp pre → Ix c pre W → W.heap[D]? = some (.deferred (some [])) → c.wpIn F n P Q { a with defers := { target := .collected D, args := #[] } :: a.defers } W) :
    (Code.rangeFunc g ps assign body).wpIn F n P Q a w :=
  wpIn_rangeFunc_ownH hro h1 hg hFg eg hseq hKt hKb hb0 hps I Ix hI hIx h0
    (fun x a' W => ∃ Bx, w.heap.size ≤ Bx ∧ Blk W Bx t (cells x) ∧ a' = a₁ x Bx)
    (fun x a' _ X Y row hs hgr hr => by
      obtain ⟨Bx, k1, k2, k3⟩ := hs
      exact ⟨Bx, k1, blk_grown k2 hgr hr, k3⟩)
    (fun l pre x W K hi hK => hassign l x W _ K rfl (hK _ _ ((KeepsOthers.alloc _ _).from _) (hKa pre W _ hi) (hI.alloc _ hi) ⟨W.heap.size, hsz pre W hi, Blk.new W t (cells x), rfl⟩))
    (fun l pre x a' W _ _ hi hax hlt => by
      obtain ⟨Bx, k1, k2, rfl⟩ := hax
      exact hbody l pre x W Bx k1 k2 hi hlt)
    hdone hstop

/-- What an iterator reads. -/
def IterS (g : Nat) (A0 : Option Addr) (k : Nat) : Prop := k = g ∨ blockOf A0 = some k
theorem values_stops2 (m : Nat) (hm : 1 ≤ m) (base g : Nat) (l : List Ent) (w : World) (h : Iter w base g l) :
    ∃ S : Nat → Prop, (∀ k, S k → base ≤ k ∧ k < w.heap.size) ∧ (∀ k, S k → ∃ cs, Blk w k 26 cs ∨ Blk w k 28 cs) ∧
      SeqStopsK Fence.wide m Try.prog 26 #[.pointer (some ⟨g, 0, none⟩)] (fun x : Ent => #[.agg #[.string x.key, .int .i64 x.seq, .bool x.del, .string x.val]]) (KC S) (fun ys => ys = l) (fun pre => pre <+: l) l.length w := by
  obtain ⟨A0, n, c0, l0, p, A, c, ho, hp, rfl, hn, hg, hk, hba, hread⟩ := h
  have hS : ∀ k, IterS g A0 k → base ≤ k ∧ k < w.heap.size := by
    rintro k (rfl | hk2)
    · exact ⟨hg, hk.lt⟩
    · exact ho.ge k hk2
  have hT : ∀ k, IterS g A0 k → ∃ cs, Blk w k 26 cs ∨ Blk w k 28 cs := by
    rintro k (rfl | hk2)
    · exact ⟨_, .inl hk⟩
    · rcases ho.form with ⟨rfl, _⟩ | ⟨g', cur, rfl, _, hh, _⟩
      · cases hk2
      · cases hk2
        exact ⟨_, .inr hh⟩
  refine ⟨IterS g A0, hS, hT, fun lp J Jx W hW hJa _ hY h0 => ?_⟩
  have hln := ho.ents_length
  have hR0 := hread w w.heap.size _ ho.reads
  rw [show (ents l0).drop (p * 4) = ents (l0.drop p) from flat_drop (f := Ent.cells) (fun _ => rfl) l0 p] at hR0
  have hR := (hR0.below hW).more hW.size
  have hll : (l0.drop p).length = n - p := by rw [List.length_drop, hln]
  rw [hll] at hY
  exact values1_in m hm lp g (n - p) c A (l0.drop p) (IterS g A0) (fun k hk => .inr (by rw [← hba]; exact hk)) (by omega) J Jx
    (fun s W1 o hs => hJa s W1 _ none hs (World.grownBy_alloc W1 o none) (fun r e => by cases e)) hY W
    (fun k hk2 => Nat.lt_of_lt_of_le (hS k hk2).2 hW.size) ((hW.cell (p := ⟨g, 0, none⟩) hk.lt).trans (hk.cell 0)) hR h0
theorem values_stops (m : Nat) (hm : 1 ≤ m) (base g : Nat) (l : List Ent) (w : World) (h : Iter w base g l) :
    ∃ S : Nat → Prop, (∀ k, S k → base ≤ k ∧ k < w.heap.size) ∧
      SeqStopsK Fence.wide m Try.prog 26 #[.pointer (some ⟨g, 0, none⟩)] (fun x : Ent => #[.agg #[.string x.key, .int .i64 x.seq, .bool x.del, .string x.val]]) (KC S) (fun ys => ys = l) (fun pre => pre <+: l) l.length w := by
  obtain ⟨S, h1, _, h2⟩ := values_stops2 m hm base g l w h
  exact ⟨S, h1, h2⟩
end Go.Proofs.Ytgcnodbinmgobaa
