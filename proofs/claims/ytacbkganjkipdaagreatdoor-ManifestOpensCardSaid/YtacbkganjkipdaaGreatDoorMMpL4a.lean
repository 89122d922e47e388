/-
  Texts joined: LibA, LibB, LibC, LibD, LibE, LibF, LibK, LibL, LibM, LibN, LibO, LibI, LibW, ComBytes, LibU.
-/
import Derived.WalkKit
import Derived.ProofKit
import Derived.Carry
import Derived.ChangeOld
import Derived.SizedLaws
import Derived.Below
import Derived.OpenShut
import Derived.Laws.OwnMore
import Derived.Laws.Rows
import Derived.Deep.AppendLies
import Derived.Deep.Draws
import Derived.Lib.Hide
import Derived.Laws.Bits64
import Derived.IntWalk
import Derived.Maps.AppendAt
import Derived.Laws.MakeOwn
import Derived.RegionTactic
import Derived.OwnWalk
import Derived.Laws.BytesArg
import Derived.Lib.AppendStr
import Derived.Deep.RegionHeld3
import Derived.Deep.DeepAppendWide
import Derived.RangeFuncNested
import Derived.Laws.StructEq
import Derived.Maps.Own
import Derived.Maps.OwnOps
import Derived.Maps.OwnSet
import Derived.Maps.Views
import Derived.Test.YtacbkganjkipdaaGreatDoorRows
import Derived.JoinedCond
import Derived.Deep.CondSized
namespace Go.Proofs.YtacbkganjkipdaaGreatDoor
open Go.ChangeShapes Go.WideShapes Go.ChangeAt Go.RowKit
def Cel (P : Program) (w : World) : Nat → TypeId → List Value → Prop
 | 0, _, _ => False
 | n + 1, t, cs =>
  match P.underlying t with
  | some .bool => ∃ b, cs = [.bool b]
  | some (.int k) => ∃ m, cs = [.int k m] ∧ (Lit.int k m).wf = true
  | some .string => ∃ s : ByteArray, cs = [.string s] ∧ s.size ≤ maxLen ∧ s.size ≤ reachBytes
  | some (.slice e) => cs = [.slice none 0 0] ∨ ∃ (a : Addr) (len cap : Nat), cs = [.slice (some a) len cap] ∧ len ≤ cap ∧ cap ≤ maxLen ∧ cap * P.bytesOf e ≤ reachBytes ∧
   ∀ i, i < cap → ∃ cs', cs'.length = P.cellsOf e ∧ (∀ j, j < P.cellsOf e → w.cell? ((a.add (i * P.cellsOf e)).add j) = cs'[j]?) ∧ Cel P w n e cs'
  | some (.struct fs) => cs.length = P.cellsOf t ∧ ∀ f ∈ fs.toList, Cel P w n f.type ((cs.drop f.offset).take (P.cellsOf f.type))
  | some (.array m e) => cs.length = P.cellsOf t ∧ ∀ i ∈ List.range m, Cel P w n e ((cs.drop (i * P.cellsOf e)).take (P.cellsOf e))
  | _ => True
section
variable {H : Type} {enc : TypeId × Value → H} {P : Program} {w : World}
theorem cel_int {n : Nat} {t : TypeId} {k : IntKind} {cs : List Value} (ht : P.underlying t = some (.int k)) (h : Cel P w n t cs) : ∃ m, cs = [.int k m] ∧ (Lit.int k m).wf = true := by
 cases n with
 | zero => exact h.elim
 | succ n => simpa only [Cel, ht] using h
theorem cel_string {n : Nat} {t : TypeId} {cs : List Value} (ht : P.underlying t = some .string) (h : Cel P w n t cs) : ∃ s : ByteArray, cs = [.string s] ∧ s.size ≤ maxLen ∧ s.size ≤ reachBytes := by
 cases n with
 | zero => exact h.elim
 | succ n => simpa only [Cel, ht] using h
theorem cel_slice {n : Nat} {t e : TypeId} {cs : List Value} (ht : P.underlying t = some (.slice e)) (h : Cel P w n t cs) :
 cs = [.slice none 0 0] ∨ ∃ (a : Addr) (len cap : Nat), cs = [.slice (some a) len cap] ∧ len ≤ cap ∧ cap ≤ maxLen ∧ cap * P.bytesOf e ≤ reachBytes ∧
  ∀ i, i < cap → ∃ m cs', cs'.length = P.cellsOf e ∧ (∀ j, j < P.cellsOf e → w.cell? ((a.add (i * P.cellsOf e)).add j) = cs'[j]?) ∧ Cel P w m e cs' := by
 cases n with
 | zero => exact h.elim
 | succ n =>
  simp only [Cel, ht] at h
  rcases h with h | ⟨a, len, cap, h1, h2, h3, h4, h5⟩
  · exact .inl h
  · exact .inr ⟨a, len, cap, h1, h2, h3, h4, fun i hi => let ⟨cs', k1, k2, k3⟩ := h5 i hi; ⟨n, cs', k1, k2, k3⟩⟩
theorem cel_struct {n : Nat} {t : TypeId} {fs : Array Field} {cs : List Value} (ht : P.underlying t = some (.struct fs)) (h : Cel P w n t cs) :
 cs.length = P.cellsOf t ∧ ∃ m, ∀ f ∈ fs.toList, Cel P w m f.type ((cs.drop f.offset).take (P.cellsOf f.type)) := by
 cases n with
 | zero => exact h.elim
 | succ n =>
  simp only [Cel, ht] at h
  exact ⟨h.1, n, h.2⟩
theorem weights_mem_all {e : TypeId} : ∀ {ds : List (DataW H)} {d : DataW H}, d ∈ ds → ∀ n ∈ d.weights P e, n ∈ DataW.weightsAll P e ds
 | [], _, h, _, _ => absurd h List.not_mem_nil
 | d0 :: ds, d, h, n, hn => by
  simp only [DataW.weightsAll, List.mem_append]
  rcases List.mem_cons.1 h with rfl | h
  · exact .inl hn
  · exact .inr (weights_mem_all h n hn)
def Sized (P : Program) (t : TypeId) (d : DataW H) : Prop := ∀ n ∈ d.weights P t, n ≤ reachBytes
theorem trod_array' {t u : TypeId} {n fuel : Nat} {cs : List Value} {x : DataW H × List MemPlace} (ht : P.underlying t = some (.array n u))
 (h : DataW.trod enc P w 0 (fun _ => true) true fuel t cs = some x) :
 ∃ (xs : List (DataW H × List MemPlace)) (m : Nat), fuel = m + 1 ∧ x = (.agg (xs.map (·.1)), xs.flatMap (·.2)) ∧ cs.length = P.cellsOf t ∧ xs.length = n ∧
  ∀ i, i < n → DataW.trod enc P w 0 (fun _ => true) true m u ((cs.drop (i * P.cellsOf u)).take (P.cellsOf u)) = xs[i]? := by
 cases fuel with
 | zero => simp [DataW.trod] at h
 | succ m =>
  unfold DataW.trod at h
  rw [ht] at h
  split at h <;> simp_all
  obtain ⟨hl, xs, hp, hd⟩ := h
  exact ⟨xs, hd.symm, by simpa using mapM_some_length hp, fun i hi => mapM_some_get hp i i (by simp [hi])⟩
theorem cel_of_trod : ∀ (fuel : Nat) {t : TypeId} {cs : List Value} {x : DataW H × List MemPlace},
 DataW.trod enc P w 0 (fun _ => true) true fuel t cs = some x → Sized P t x.1 → Cel P w fuel t cs
 | 0, t, cs, x, h, _ => by simp [DataW.trod] at h
 | fuel + 1, t, cs, x, h, hz => by
  unfold Cel
  split
  · rename_i hk
    obtain ⟨b, h1, _⟩ := DataW.trod_bool hk h
    exact ⟨b, h1⟩
  · rename_i k hk
    obtain ⟨n, h1, _, h3⟩ := DataW.trod_int hk h
    exact ⟨n, h1, h3⟩
  · rename_i hk
    obtain ⟨s, h1, rfl, h3⟩ := DataW.trod_string hk h
    refine ⟨s, h1, h3, ?_⟩
    have := hz s.data.toList.length (by simp [DataW.weights])
    simpa using this
  · rename_i u hk
    rcases DataW.trod_slice hk h with ⟨h1, _⟩ | ⟨a, len, cap, elems, rest, n, hf, rfl, rfl, _, hl, hm, hlen, hel, hsp, _⟩
    · exact .inl h1
    · right
      obtain rfl : fuel = n := by omega
      obtain ⟨hr1, hr2⟩ := hsp rfl
      have hw : ∀ y ∈ elems ++ rest, Sized P u y.1 := by
       intro y hy n hn
       refine hz n ?_
       simp only [DataW.weights, hk, List.mem_cons, List.mem_append]
       right
       rcases List.mem_append.1 hy with hy | hy
       · exact .inl (weights_mem_all (List.mem_map_of_mem hy) n hn)
       · exact .inr (weights_mem_all (List.mem_map_of_mem hy) n hn)
      have hcb : cap * P.bytesOf u ≤ reachBytes := by
       have := hz ((elems.length + rest.length) * P.bytesOf u) (by simp [DataW.weights, hk])
       rw [hlen, hr1] at this
       rwa [show len + (cap - len) = cap by omega] at this
      refine ⟨a, len, cap, rfl, hl, hm, hcb, fun i hi => ?_⟩
      have key : (w.cells? 0 (a.add (i * P.cellsOf u)) (P.cellsOf u)).bind (DataW.trod enc P w 0 (fun _ => true) true fuel u) = (elems ++ rest)[i]? := by
       by_cases hil : i < len
       · rw [hel i hil, List.getElem?_append_left (by omega)]
       · have := hr2 (i - len) (by omega)
         rw [show len + (i - len) = i by omega] at this
         rw [this, List.getElem?_append_right (by omega), hlen]
      have hlt : i < (elems ++ rest).length := by simp; omega
      rw [List.getElem?_eq_getElem hlt] at key
      obtain ⟨cs', k1, k2⟩ := Option.bind_eq_some_iff.1 key
      obtain ⟨_, k3, k4⟩ := World.cells?_some k1
      exact ⟨cs', k3, k4, cel_of_trod fuel k2 (hw _ (List.getElem_mem hlt))⟩
  · rename_i gs hk
    obtain ⟨xs, n, hfu, rfl, hl, hlen, hf⟩ := DataW.trod_struct hk h
    obtain rfl : fuel = n := by omega
    refine ⟨hl, fun f hfm => ?_⟩
    obtain ⟨i, hi, hfi⟩ := List.mem_iff_getElem.1 hfm
    have hgi : gs[i]? = some f := by simp at hi; simp [← hfi, hi]
    have h1 := hf i f hgi
    have hlt : i < xs.length := by rw [hlen]; simpa using hi
    rw [List.getElem?_eq_getElem hlt] at h1
    refine cel_of_trod fuel h1 (fun k hk' => hz k ?_)
    simp only [DataW.weights, hk]
    exact DataW.weights_mem_each (j := i) (by rw [List.getElem?_map, Array.getElem?_toList, hgi]; rfl) (by rw [List.getElem?_map, List.getElem?_eq_getElem hlt]; rfl) k hk'
  · rename_i n u hk
    obtain ⟨xs, m, hfu, rfl, hl, hlen, hf⟩ := trod_array' hk h
    obtain rfl : fuel = m := by omega
    refine ⟨hl, fun i hi => ?_⟩
    have hin : i < n := by simpa using hi
    have h1 := hf i hin
    have hlt : i < xs.length := by omega
    rw [List.getElem?_eq_getElem hlt] at h1
    refine cel_of_trod fuel h1 (fun k hk' => hz k ?_)
    simp only [DataW.weights, hk]
    exact weights_mem_all (List.mem_map_of_mem (List.getElem_mem hlt)) k hk'
  · trivial
def Val (P : Program) (w : World) (t : TypeId) (v : Value) : Prop :=
 match P.underlying t with
 | some (.struct _) | some (.array _ _) => ∃ (cs : Array Value) (n : Nat), v = .agg cs ∧ Cel P w n t cs.toList
 | some .bool | some (.int _) | some .string | some (.slice _) => v.oneCell' = true ∧ ∃ n, Cel P w n t [v]
 | _ => True
theorem val_of_trod {t : TypeId} {v : Value} {d : DataW H} {ps : List MemPlace} {base : Nat} (hok : Value.okWide P w .any base t v)
 (h : DataW.Trod enc P w 0 (fun _ => true) true t v d ps) (hz : Sized P t d) : Val P w t v := by
 obtain ⟨fuel, h⟩ := h
 have hc := cel_of_trod fuel h hz
 unfold Val
 split
 · rename_i fs hk
   unfold Value.okWide at hok
   rw [hk] at hok
   obtain ⟨cs, rfl, _⟩ := hok
   exact ⟨cs, fuel, rfl, by simpa [Value.cells] using hc⟩
 · rename_i hk
   unfold Value.okWide at hok
   rw [hk] at hok
   obtain ⟨cs, rfl, _⟩ := hok
   exact ⟨cs, fuel, rfl, by simpa [Value.cells] using hc⟩
 · rename_i hk
   obtain ⟨n, rfl⟩ := okWide_bool hk hok
   exact ⟨rfl, fuel, by simpa [Value.cells] using hc⟩
 · rename_i hk
   obtain ⟨n, rfl⟩ := okWide_int hk hok
   exact ⟨rfl, fuel, by simpa [Value.cells] using hc⟩
 · rename_i hk
   obtain ⟨n, rfl⟩ := okWide_string hk hok
   exact ⟨rfl, fuel, by simpa [Value.cells] using hc⟩
 · rename_i hk
   obtain ⟨a, l, c, rfl⟩ := okWide_slice hk hok
   exact ⟨rfl, fuel, by simpa [Value.cells] using hc⟩
 · trivial
theorem val_slice {t e : TypeId} {v : Value} (ht : P.underlying t = some (.slice e)) (h : Val P w t v) :
 v = .slice none 0 0 ∨ ∃ (a : Addr) (len cap : Nat), v = .slice (some a) len cap ∧ len ≤ cap ∧ cap ≤ maxLen ∧ cap * P.bytesOf e ≤ reachBytes ∧
  ∀ i, i < cap → ∃ m cs', cs'.length = P.cellsOf e ∧ (∀ j, j < P.cellsOf e → w.cell? ((a.add (i * P.cellsOf e)).add j) = cs'[j]?) ∧ Cel P w m e cs' := by
 simp only [Val, ht] at h
 obtain ⟨_, n, h⟩ := h
 rcases cel_slice ht h with h | ⟨a, len, cap, h1, h2, h3, h4, h5⟩
 · exact .inl (by simpa using h)
 · exact .inr ⟨a, len, cap, by simpa using h1, h2, h3, h4, h5⟩
def Vals (P : Program) (w : World) : List TypeId → List Value → Prop
 | [], vs => vs = []
 | t :: ts, vs => ∃ v vs', vs = v :: vs' ∧ Val P w t v ∧ Vals P w ts vs'
theorem vals_of_trodAll {base : Nat} : ∀ {ts : List TypeId} {vs : List Value} {ds : List (DataW H)} {ps : List MemPlace},
 (∀ (j : Nat) t v, ts[j]? = some t → vs[j]? = some v → Value.okWide P w .any base t v) →
 DataW.TrodAll enc P w 0 (fun _ => true) true ts vs ds ps → (∀ n ∈ DataW.weightsEach P ts ds, n ≤ reachBytes) → Vals P w ts vs
 | [], vs, ds, ps, _, h, _ => by
  obtain ⟨rfl, _⟩ := trodAll_nil h
  exact rfl
 | t :: ts, vs, ds, ps, hok, h, hz => by
  obtain ⟨v, vs', d, ds', p, q, rfl, rfl, rfl, hv, hr⟩ := trodAll_cons h
  exact ⟨v, vs', rfl, val_of_trod (hok 0 t v rfl rfl) hv (fun n hn => hz n (by simp only [DataW.weightsEach, List.mem_append]; exact .inl hn)),
   vals_of_trodAll (fun j t' v' hj hj' => hok (j + 1) t' v' (by simpa using hj) (by simpa using hj')) hr (fun n hn => hz n (by simp only [DataW.weightsEach, List.mem_append]; exact .inr hn))⟩
def rowed (P : Program) (ts : List TypeId) : Bool := ts.all fun t => P.readableRec t && decide (t < P.types.size)
theorem trodAll_below (hl : laidOutB P = true) {W' : World} (hb : Below w.heap.size w W') : ∀ {ts : List TypeId} {vs : List Value} {ds : List (DataW H)} {ps : List MemPlace}, rowed P ts = true →
 DataW.TrodAll enc P w 0 (fun _ => true) true ts vs ds ps → DataW.TrodAll enc P W' 0 (fun b => decide (b < w.heap.size)) true ts vs ds ps
 | [], vs, ds, ps, _, h => by
  obtain ⟨rfl, rfl, rfl⟩ := trodAll_nil h
  exact rfl
 | t :: ts, vs, ds, ps, hT, h => by
  simp only [rowed, List.all_cons, Bool.and_eq_true, decide_eq_true_eq] at hT
  obtain ⟨⟨h2, h3⟩, h4⟩ := hT
  obtain ⟨v, vs', d, ds', p, q, rfl, rfl, rfl, hv, hr⟩ := trodAll_cons h
  have lt : ∀ x ∈ p, x.block < w.heap.size := by obtain ⟨m, hm⟩ := hv; exact DataW.trod_lt m _ _ _ hm
  exact ⟨p, q, Below.trod hl h2 h3 hv hb lt, trodAll_below hl hb h4 hr, rfl⟩
theorem trodAll_length : ∀ {ts : List TypeId} {vs : List Value} {ds : List (DataW H)} {ps : List MemPlace}, DataW.TrodAll enc P w 0 (fun _ => true) true ts vs ds ps → ds.length = ts.length ∧ vs.length = ts.length
 | [], vs, ds, ps, h => by obtain ⟨rfl, rfl, _⟩ := trodAll_nil h; exact ⟨rfl, rfl⟩
 | t :: ts, vs, ds, ps, h => by
  obtain ⟨v, vs', d, ds', p, q, rfl, rfl, rfl, _, hr⟩ := trodAll_cons h
  have := trodAll_length hr
  simp [this]
end
end Go.Proofs.YtacbkganjkipdaaGreatDoor
namespace Go.Proofs.YtacbkganjkipdaaGreatDoor
open Go.RowKit
structure Upd (S : Nat → Prop) (w w' : World) : Prop where
 os : w'.os = w.os
 tape : w'.tape = w.tape
 output : w'.output = w.output
 size : w.heap.size ≤ w'.heap.size
 block : ∀ k, k < w.heap.size → ¬ S k → w'.heap[k]? = w.heap[k]?
section
variable {S S' : Nat → Prop} {a w w' w'' : World}
theorem Upd.refl (S : Nat → Prop) (w : World) : Upd S w w := ⟨rfl, rfl, rfl, Nat.le_refl _, fun _ _ _ => rfl⟩
theorem Upd.trans (h : Upd S w w') (k : Upd S' w' w'') (hs : ∀ i, i < w.heap.size → S' i → S i) : Upd S w w'' :=
 ⟨k.os.trans h.os, k.tape.trans h.tape, k.output.trans h.output, Nat.le_trans h.size k.size, fun i hi hn => (k.block i (Nat.lt_of_lt_of_le hi h.size) (fun x => hn (hs i hi x))).trans (h.block i hi hn)⟩
theorem Upd.mono (h : Upd S w w') (hs : ∀ i, i < w.heap.size → S i → S' i) : Upd S' w w' :=
 ⟨h.os, h.tape, h.output, h.size, fun i hi hn => h.block i hi (fun x => hn (hs i hi x))⟩
theorem Upd.drew (h : Upd S a w) : Upd S a w.drew := ⟨h.os, h.tape, h.output, h.size, h.block⟩
theorem Upd.alloc (h : Upd S a w) (o : Obj) : Upd S a (w.alloc o) :=
 ⟨h.os, h.tape, h.output, Nat.le_trans h.size (by simp), fun i hi hn => (Below.heap_alloc w o i (Nat.lt_of_lt_of_le hi h.size)).trans (h.block i hi hn)⟩
theorem Upd.grown {row : Option Nat} (h : Upd S a w) (hg : w.grownBy w' row) (hr : ∀ k, row = some k → k < a.heap.size → S k) : Upd S a w' :=
 h.trans (S' := fun k => row = some k) ⟨hg.os, hg.tape, hg.output, hg.size, fun k hk hn => hg.block k hk (fun e => hn e.symm)⟩ (fun i hi e => hr i e hi)
theorem Upd.to_below {B : Nat} (h : Upd S w w') (hB : B ≤ w.heap.size) (hs : ∀ k, k < B → ¬ S k) : Below B w w' :=
 ⟨h.os, h.tape, h.output, h.size, fun k hk => h.block k (by omega) (hs k hk)⟩
theorem Upd.of_below (hb : Below w.heap.size w w') : Upd S w w' := ⟨hb.os, hb.tape, hb.output, hb.size, fun k hk _ => hb.block k hk⟩
theorem Upd.none_ (h : Upd (fun _ => False) w w') : Below w.heap.size w w' := h.to_below (Nat.le_refl _) fun _ _ h => h
end
def Blk (w : World) (g : Nat) (t : TypeId) (cs : Array Value) : Prop := w.heap[g]? = some (.cells cs t (0, 0))
section
variable {S : Nat → Prop} {w w' : World} {g : Nat} {t : TypeId} {cs : Array Value}
theorem Blk.lt (h : Blk w g t cs) : g < w.heap.size := by
 rcases Nat.lt_or_ge g w.heap.size with hlt | hge
 · exact hlt
 · unfold Blk at h; rw [Array.getElem?_eq_none hge] at h; cases h
theorem Blk.cell (h : Blk w g t cs) (i : Nat) : w.cell? ⟨g, i, none⟩ = cs[i]? := cell_of_row w g i cs t (0, 0) h
theorem Blk.frozen (h : Blk w g t cs) (i : Nat) : w.frozen? ⟨g, i, none⟩ = false := by
 unfold Blk at h
 simp [World.frozen?, h]
theorem Blk.new (w : World) (t : TypeId) (cs : Array Value) : Blk (w.alloc (.cells cs t)) w.heap.size t cs := heap_alloc_new w _
theorem Blk.new_ {w : World} {g : Nat} (h : w.heap.size = g) (t : TypeId) (cs : Array Value) : Blk (w.alloc (.cells cs t)) g t cs := by subst h; exact heap_alloc_new w _
theorem Blk.alloc (h : Blk w g t cs) (o : Obj) : Blk (w.alloc o) g t cs := (Below.heap_alloc w o g h.lt).trans h
theorem Blk.set_ (h : Blk w g t cs) (i : Nat) (u : Value) : Blk (w.setCell ⟨g, i, none⟩ u) g t (cs.setIfInBounds i u) := by
 unfold Blk at h ⊢
 simp [World.setCell, Array.getElem?_modify, h]
theorem Blk.far (h : Blk w g t cs) {p : Addr} (hp : g ≠ p.block) (u : Value) : Blk (w.setCell p u) g t cs := (Below.heap_setCell w p u g hp).trans h
theorem Blk.upd (h : Blk w g t cs) (hb : Upd S w w') (hg : ¬ S g) : Blk w' g t cs := (hb.block g h.lt hg).trans h
theorem Blk.ne_ {g' : Nat} {t' : TypeId} {cs' : Array Value} (h : Blk w g t cs) (h' : Blk w g' t' cs') (hne : t ≠ t') : g ≠ g' := by
 rintro rfl
 unfold Blk at h h'
 rw [h] at h'
 injection h' with h'
 injection h' with _ ht
 exact hne ht
end
theorem block_of_add (a : Addr) (n : Nat) : (a.add n).block = a.block := by unfold Addr.add; split <;> rfl
theorem add_of_add (a : Addr) (i j : Nat) : (a.add i).add j = a.add (i + j) := by
 unfold Addr.add
 by_cases hi : i = 0 <;> by_cases hj : j = 0 <;> simp [hi, hj, Nat.add_assoc]
def Reads (w : World) (B size : Nat) (A : Option Addr) (n : Nat) (xs : List Value) : Prop :=
 xs.length = n * size ∧ (0 < n → ∃ ad, A = some ad ∧ ad.block < B ∧ ∀ j u, xs[j]? = some u → w.cell? (ad.add j) = some u)
section
variable {w w' : World} {B B' size n : Nat} {A : Option Addr} {xs : List Value}
theorem Reads.none_ : Reads w B size A 0 [] := ⟨by simp, fun h => absurd h (by omega)⟩
theorem Reads.at_ {k : Nat} (h : Reads w B 1 A n xs) (hk : k < n) : ∃ ad u, A = some ad ∧ ad.block < B ∧ xs[k]? = some u ∧ w.cell? (ad.add k) = some u := by
 obtain ⟨ad, e, hb, hc⟩ := h.2 (by omega)
 have hl : k < xs.length := by have := h.1; omega
 exact ⟨ad, xs[k], e, hb, List.getElem?_eq_getElem hl, hc k _ (List.getElem?_eq_getElem hl)⟩
theorem Reads.keep (h : Reads w B size A n xs) (hk : ∀ p : Addr, p.block < B → w'.cell? p = w.cell? p) : Reads w' B size A n xs :=
 ⟨h.1, fun hn => by
  obtain ⟨ad, e, hb, hc⟩ := h.2 hn
  exact ⟨ad, e, hb, fun j u hu => (hk _ (by rw [block_of_add]; exact hb)).trans (hc j u hu)⟩⟩
theorem Reads.more (h : Reads w B size A n xs) (hB : B ≤ B') : Reads w B' size A n xs :=
 ⟨h.1, fun hn => by
  obtain ⟨ad, e, hb, hc⟩ := h.2 hn
  exact ⟨ad, e, by omega, hc⟩⟩
theorem Reads.below (h : Reads w B size A n xs) (hb : Below B w w') : Reads w' B size A n xs := h.keep fun _ hp => hb.cell hp
theorem Reads.drew (h : Reads w B size A n xs) : Reads w.drew B size A n xs := h
theorem Reads.alloc (h : Reads w B size A n xs) (hB : B ≤ w.heap.size) (o : Obj) : Reads (w.alloc o) B size A n xs := h.keep fun p hp => World.cell?_alloc_lt w o p (by omega)
theorem Reads.cut (h : Reads w B size A n xs) {k cap : Nat} (hk : k ≤ n) (hc : n ≤ cap) :
 Reads w B size (if cap = k then A else A.map (·.add (k * size))) (n - k) (xs.drop (k * size)) := by
 refine ⟨by rw [List.length_drop, h.1, Nat.sub_mul], fun hn => ?_⟩
 obtain ⟨ad, rfl, hb, hcell⟩ := h.2 (by omega)
 rw [if_neg (by omega)]
 refine ⟨ad.add (k * size), rfl, by rw [block_of_add]; exact hb, fun j u hu => ?_⟩
 rw [add_of_add]
 exact hcell _ u (by rw [← hu, List.getElem?_drop])
theorem Reads.take (h : Reads w B size A n xs) {k : Nat} (hk : k ≤ n) : Reads w B size A k (xs.take (k * size)) := by
 refine ⟨by rw [List.length_take, h.1]; exact Nat.min_eq_left (Nat.mul_le_mul_right _ hk), fun hn => ?_⟩
 obtain ⟨ad, rfl, hb, hcell⟩ := h.2 (by omega)
 refine ⟨ad, rfl, hb, fun j u hu => hcell j u ?_⟩
 rw [List.getElem?_take] at hu
 split at hu
 · exact hu
 · cases hu
theorem Reads.drop (h : Reads w B 1 A n xs) {k : Nat} (hk : k ≤ n) : Reads w B 1 (A.map (·.add k)) (n - k) (xs.drop k) := by
 refine ⟨by rw [List.length_drop, h.1]; omega, fun hn => ?_⟩
 obtain ⟨ad, rfl, hb, hcell⟩ := h.2 (by omega)
 refine ⟨ad.add k, rfl, by rw [block_of_add]; exact hb, fun j u hu => ?_⟩
 rw [add_of_add]
 exact hcell _ u (by rw [← hu, List.getElem?_drop])
theorem Reads.of_own {base : Nat} {e : TypeId} {c : Nat} (h : w.ownsRow base e size (.slice A n c) n xs) : Reads w w.heap.size size A n xs := by
 refine ⟨h.1, fun hn => ?_⟩
 obtain ⟨g, cap, hv, _, hlt⟩ := h.form hn
 have hA : A = some ⟨g, 0, none⟩ := by injection hv
 subst hA
 exact ⟨_, rfl, hlt, h.cells (g := g) rfl⟩
theorem Reads.of_blk {g : Nat} {t : TypeId} {cs : Array Value} (h : Blk w g t cs) (hs : n * size ≤ cs.size) (hB : g < B) : Reads w B size (some ⟨g, 0, none⟩) n (cs.toList.take (n * size)) := by
 refine ⟨by simp; omega, fun _ => ⟨_, rfl, hB, fun j u hu => ?_⟩⟩
 have : (⟨g, 0, none⟩ : Addr).add j = ⟨g, j, none⟩ := by unfold Addr.add; split <;> simp_all
 rw [this, h.cell]
 rw [List.getElem?_take] at hu
 split at hu
 · simpa using hu
 · cases hu
end
def Halted (p : Prop) : Prop := p
theorem halt_ {p : Prop} (h : Halted p) : p := h
theorem unhalt {p : Prop} (h : p) : Halted p := h
def Own (w : World) (base : Nat) (e : TypeId) (size : Nat) (A : Option Addr) (n c : Nat) (xs : List Value) : Prop := w.ownsRow base e size (.slice A n c) n xs
def Elem (P : Program) (t e : TypeId) (size bytes : Nat) : Prop := ∃ (i : TypeInfo) (z : Value), P.underlying t = some (.slice e) ∧ P.info? e = some i ∧ i.zero = some z ∧ i.size = size ∧ i.bytes = bytes ∧ z.cells.size = size ∧ 0 < size ∧ 0 < bytes
def elemB (P : Program) (t e : TypeId) (size bytes : Nat) : Bool :=
 (match P.underlying t with | some (.slice e') => e' == e | _ => false) &&
 (match P.info? e with | some i => i.size == size && i.bytes == bytes && (match i.zero with | some z => z.cells.size == size | none => false) | none => false) && decide (0 < size) && decide (0 < bytes)
theorem elem_of {P : Program} {t e : TypeId} {size bytes : Nat} (h : elemB P t e size bytes = true) : Elem P t e size bytes := by
 simp only [elemB, Bool.and_eq_true, decide_eq_true_eq] at h
 obtain ⟨⟨⟨h1, h2⟩, h3⟩, h4⟩ := h
 split at h1
 · rename_i e' he
   rw [beq_iff_eq] at h1
   subst h1
   split at h2
   · rename_i i hi
     simp only [Bool.and_eq_true, beq_iff_eq] at h2
     obtain ⟨⟨h5, h6⟩, h7⟩ := h2
     split at h7
     · rename_i z hz
       rw [beq_iff_eq] at h7
       exact ⟨i, z, he, hi, hz, h5, h6, h7, h3, h4⟩
     · cases h7
   · cases h2
 · cases h1
def blockOf : Option Addr → Option Nat
 | some a => some a.block
 | none => none
section
variable {P : Program} {w w' : World} {base e size : Nat} {A : Option Addr} {n c : Nat} {xs : List Value}
theorem Own.length (h : Own w base e size A n c xs) : xs.length = n * size := h.1
theorem Own.nil_ (w : World) (base e size : Nat) : Own w base e size none 0 0 [] := World.ownsRow_nil w base e size
theorem Own.form (h : Own w base e size A n c xs) : (A = none ∧ n = 0 ∧ c = 0 ∧ xs = []) ∨ ∃ g cur, A = some ⟨g, 0, none⟩ ∧ base ≤ g ∧ Blk w g e cur ∧ n ≤ c ∧ c ≤ maxLen ∧ cur.size = c * size ∧ cur.toList.take (n * size) = xs := by
 obtain ⟨hl, h | ⟨g, cap, cur, hv, hb, hh, h1, h2, h3, h4⟩⟩ := h
 · obtain ⟨h, rfl⟩ := h
   injection h with h1 h2 h3
   exact .inl ⟨h1, rfl, h3, List.eq_nil_of_length_eq_zero (by simpa using hl)⟩
 · injection hv with e1 e2 e3
   subst e1 e3
   exact .inr ⟨g, cur, rfl, hb, hh, h1, h2, h3, h4⟩
theorem Own.of_blk {g : Nat} {cur : Array Value} (h : Blk w g e cur) (hb : base ≤ g) (hn : n ≤ c) (hc : c ≤ maxLen) (hs : cur.size = c * size) : Own w base e size (some ⟨g, 0, none⟩) n c (cur.toList.take (n * size)) :=
 ⟨by rw [List.length_take, Array.length_toList, hs]; exact Nat.min_eq_left (Nat.mul_le_mul_right _ hn), .inr ⟨g, c, cur, rfl, hb, h, hn, hc, hs, rfl⟩⟩
theorem Own.ge (h : Own w base e size A n c xs) : ∀ g, blockOf A = some g → base ≤ g ∧ g < w.heap.size := by
 rcases h.form with ⟨rfl, _⟩ | ⟨g, cur, rfl, hb, hh, _⟩
 · intro g hg; cases hg
 · intro g' hg; cases hg; exact ⟨hb, hh.lt⟩
theorem Own.reads (h : Own w base e size A n c xs) : Reads w w.heap.size size A n xs := Reads.of_own h
theorem Own.mono {base' : Nat} (h : Own w base e size A n c xs) (hb : base' ≤ base) : Own w base' e size A n c xs := by
 obtain ⟨h1, h2⟩ := h
 rcases h2 with h2 | ⟨g, cap, cur, hv, hg, r⟩
 · exact ⟨h1, .inl h2⟩
 · exact ⟨h1, .inr ⟨g, cap, cur, hv, by omega, r⟩⟩
theorem Own.upd {S : Nat → Prop} (h : Own w base e size A n c xs) (hu : Upd S w w') (hn : ∀ g, blockOf A = some g → ¬ S g) : Own w' base e size A n c xs := by
 obtain ⟨h1, h2⟩ := h
 rcases h2 with h2 | ⟨g, cap, cur, hv, hg, hh, r⟩
 · exact ⟨h1, .inl h2⟩
 · refine ⟨h1, .inr ⟨g, cap, cur, hv, hg, (Blk.upd (g := g) hh hu (hn g ?_)), r⟩⟩
   injection hv with e1
   rw [e1]
   rfl
theorem Own.below {B : Nat} (h : Own w base e size A n c xs) (hb : Below B w w') (hB : w.heap.size ≤ B) : Own w' base e size A n c xs :=
 h.upd (S := fun _ => False) (Upd.of_below (hb.mono hB)) (fun _ _ h => h)
theorem Own.alloc (h : Own w base e size A n c xs) (o : Obj) : Own (w.alloc o) base e size A n c xs := World.ownsRow.alloc h o
theorem Own.le (h : Own w base e size A n c xs) : n ≤ c := by
 rcases h.form with ⟨_, rfl, _⟩ | ⟨g, cur, _, _, _, h1, _⟩ <;> omega
theorem Own.capLe (h : Own w base e size A n c xs) : c ≤ maxLen := by
 rcases h.form with ⟨_, _, rfl, _⟩ | ⟨g, cur, _, _, _, _, h2, _⟩
 · unfold maxLen; omega
 · exact h2
theorem Own.empty (w : World) (e size : Nat) : Own (w.alloc (.cells #[] e)) w.heap.size e size (some ⟨w.heap.size, 0, none⟩) 0 0 [] := by
 have := Own.of_blk (base := w.heap.size) (n := 0) (c := 0) (size := size) (Blk.new w e #[]) (Nat.le_refl _) (Nat.le_refl _) (Nat.zero_le _) (by simp)
 simpa using this
theorem Own.built {cs : Array Value} {n : Nat} (w : World) (e : Nat) (hs : cs.size = n * size) (hn : n ≤ maxLen) : Own (w.alloc (.cells cs e)) w.heap.size e size (some ⟨w.heap.size, 0, none⟩) n n cs.toList := by
 have := Own.of_blk (base := w.heap.size) (n := n) (c := n) (size := size) (Blk.new w e cs) (Nat.le_refl _) (Nat.le_refl _) hn hs
 rwa [List.take_of_length_le (by simp; omega)] at this
theorem Own.apart {base' e' size' n' c' : Nat} {A' : Option Addr} {xs' : List Value} (h : Own w base e size A n c xs) (h' : Own w base' e' size' A' n' c' xs') (hne : e ≠ e') : ∀ g, blockOf A = some g → blockOf A' ≠ some g := by
 intro g hg hg'
 rcases h.form with ⟨rfl, _⟩ | ⟨g1, cur, rfl, _, hb, _⟩
 · cases hg
 · rcases h'.form with ⟨rfl, _⟩ | ⟨g2, cur', rfl, _, hb', _⟩
   · cases hg'
   · cases hg
     cases hg'
     exact Blk.ne_ hb hb' hne rfl
theorem run_app {t ty : TypeId} {bytes : Nat} (hi : Elem P t e size bytes) (hown : Own w base e size A n c xs)
 {B : Nat} {D : Option Addr} {m d : Nat} {news : List Value} (hr : Reads w B size D m news) (h1 : ∀ u ∈ news, u.oneCell' = true) (hbytes : (n + m) * bytes ≤ 140737488355328) (hbase : base ≤ w.heap.size) :
 ∃ A' c' w', (Builtin.append_ #[t, t] ty #[.slice A n c, .slice D m d]).run P w = .ok (.slice A' (n + m) c') w' ∧ Own w' base e size A' (n + m) c' (xs ++ news) ∧ Upd (fun k => blockOf A = some k) w w' ∧
  (blockOf A' = blockOf A ∨ ∃ g, A' = some ⟨g, 0, none⟩ ∧ w.heap.size ≤ g) := by
 obtain ⟨i, z, ht, hi, hz, hsize, hby, hzs, hsz, hb0⟩ := hi
 have ho : ∀ v : Value, v = .slice A n c → v.ownBlock = blockOf A := by rintro v rfl; cases A <;> rfl
 rcases D with _ | ad
 · have hm : m = 0 := by
    rcases Nat.eq_zero_or_pos m with h0 | h0
    · exact h0
    · obtain ⟨ad, h, _⟩ := hr.2 h0
      cases h
   subst hm
   have hn : news = [] := List.eq_nil_of_length_eq_zero (by simpa using hr.1)
   subst hn
   refine ⟨A, c, w, ?_, by simpa using hown, Upd.refl _ _, .inl rfl⟩
   rcases hown.2 with ⟨hv, rfl⟩ | ⟨g, cap, cur, hv, _, _, hnc, _⟩
   · injection hv with e1 e2 e3
     subst e1 e3
     simp [Builtin.append_, run_underlying ht, sizeOf, typeInfo, hi, Builtin.lenOf, Builtin.firstCells]
   · injection hv with e1 e2 e3
     subst e1 e3
     simp [Builtin.append_, run_underlying ht, sizeOf, typeInfo, hi, Builtin.lenOf, Builtin.firstCells, hnc, storeCells]
 · have hcells : ∀ j u, news[j]? = some u → w.cell? (ad.add j) = some u := by
    intro j u hu
    rcases Nat.eq_zero_or_pos m with h0 | h0
    · subst h0
      have hn : news = [] := List.eq_nil_of_length_eq_zero (by simpa using hr.1)
      subst hn
      simp at hu
    · obtain ⟨ad', h, _, hc⟩ := hr.2 h0
      injection h with h
      subst h
      exact hc j u hu
   have h63 : n + m ≤ maxLen := by
    have : n + m ≤ (n + m) * bytes := Nat.le_mul_of_pos_right _ hb0
    unfold maxLen
    omega
   obtain ⟨v', w', hrun, h2, h3, h4, h5⟩ := run_append_own_at (P := P) w base t ty e i z size bytes ht hi hz hsize hby hzs hsz _ n xs hown ad m d news hr.1 hcells h1 h63 hbytes hbase
   rw [ho _ rfl] at h3 h5
   have hform : ∃ A' c', v' = .slice A' (n + m) c' := by
    rcases h2.2 with ⟨rfl, e0⟩ | ⟨g, cap, cur, rfl, _⟩
    · exact ⟨none, 0, by rw [e0]⟩
    · exact ⟨_, _, rfl⟩
   obtain ⟨A', c', rfl⟩ := hform
   refine ⟨A', c', w', hrun, h2, ⟨h3.os, h3.tape, h3.output, h3.size, fun k hk hn => h3.block k hk (fun e => hn e.symm)⟩, ?_⟩
   have ho' : (Value.slice A' (n + m) c').ownBlock = blockOf A' := by cases A' <;> rfl
   rw [ho'] at h5
   rcases h5 with h5 | h5
   · exact .inl h5
   · right
     rcases Own.form h2 with ⟨rfl, _⟩ | ⟨g, cur, rfl, _⟩
     · cases h5
     · injection h5 with h5
       dsimp only at h5
       exact ⟨g, rfl, by omega⟩
theorem wp_app {t : TypeId} {bytes : Nat} {o : Oper} {a : Act} {K : Act → World → Prop} {Q : Exit → Act → World → Prop} (hi : Elem P t e size bytes) (hown : Own w base e size A n c xs)
 {B : Nat} {D : Option Addr} {m d : Nat} {news : List Value} (hr : Reads w B size D m news) (h1 : ∀ u ∈ news, u.oneCell' = true) (hbytes : (n + m) * bytes ≤ 140737488355328) (hbase : base ≤ w.heap.size)
 (s x : Operand) (ho : o.op = .call { callee := .builtin .append, args := #[s, x], argTypes := #[t, t] }) (hs : a.eval s = .slice A n c) (hx : a.eval x = .slice D m d)
 (h : ∀ A' c' w', Own w' base e size A' (n + m) c' (xs ++ news) → Upd (fun k => blockOf A = some k) w w' → (blockOf A' = blockOf A ∨ ∃ g, A' = some ⟨g, 0, none⟩ ∧ w.heap.size ≤ g) → K (a.put o.dst (.slice A' (n + m) c')) w') : o.wp P a w K Q := by
 obtain ⟨A', c', w', hrun, h2, h3, h4⟩ := run_app (P := P) (ty := o.type) (d := d) hi hown hr h1 hbytes hbase
 unfold Oper.wp execOp
 simp only [ho, resolve, invoke, builtin, Sem.run_bind, Sem.run_pure, Result.andThen_ok, List.map_toArray, List.map_cons, List.map_nil, hs, hx, hrun]
 exact h A' c' w' h2 h3 h4
theorem wpList_app {t : TypeId} {bytes : Nat} {ops : Array Oper} {rest : List Oper} {o : Oper} {a : Act} {Q : Exit → Act → World → Prop} (hi : Elem P t e size bytes) (hown : Own w base e size A n c xs)
 {B : Nat} {D : Option Addr} {m d : Nat} {news : List Value} (hr : Reads w B size D m news) (h1 : ∀ u ∈ news, u.oneCell' = true) (hbytes : (n + m) * bytes ≤ 140737488355328) (hbase : base ≤ w.heap.size)
 (s x : Operand) (hgd : o.guard = none) (ho : o.op = .call { callee := .builtin .append, args := #[s, x], argTypes := #[t, t] }) (hs : a.eval s = .slice A n c) (hx : a.eval x = .slice D m d)
 (h : ∀ A' c' w', Own w' base e size A' (n + m) c' (xs ++ news) → Upd (fun k => blockOf A = some k) w w' → (blockOf A' = blockOf A ∨ ∃ g, A' = some ⟨g, 0, none⟩ ∧ w.heap.size ≤ g) → wpList P ops Q rest (a.put o.dst (.slice A' (n + m) c')) w') : wpList P ops Q (o :: rest) a w :=
 wpList_plain hgd fun _ hK => wp_app hi hown hr h1 hbytes hbase s x ho hs hx fun A' c' w' h2 h3 h4 => hK _ _ (h A' c' w' h2 h3 h4)
theorem reads_new {cs : Array Value} (w : World) (e m : Nat) (hs : cs.size = m * size) : Reads (w.alloc (.cells cs e)) (w.heap.size + 1) size (some ⟨w.heap.size, 0, none⟩) m cs.toList := by
 have := Reads.of_blk (B := w.heap.size + 1) (n := m) (size := size) (Blk.new w e cs) (by omega) (by omega)
 rwa [List.take_of_length_le (by simp; omega)] at this
end
def u8s (l : List UInt8) : List Value := l.map fun b => .int .u8 b.toNat
theorem u8s_length (l : List UInt8) : (u8s l).length = l.length := by simp [u8s]
theorem u8s_append (a b : List UInt8) : u8s (a ++ b) = u8s a ++ u8s b := by simp [u8s]
theorem u8s_take (l : List UInt8) (k : Nat) : (u8s l).take k = u8s (l.take k) := by simp [u8s, List.map_take]
theorem u8s_drop (l : List UInt8) (k : Nat) : (u8s l).drop k = u8s (l.drop k) := by simp [u8s, List.map_drop]
theorem u8s_get (l : List UInt8) (k : Nat) : (u8s l)[k]? = (l[k]?).map fun b => .int .u8 b.toNat := by simp [u8s]
theorem u8s_one (l : List UInt8) : ∀ u ∈ u8s l, u.oneCell' = true := by
 intro u hu
 simp only [u8s, List.mem_map] at hu
 obtain ⟨x, _, rfl⟩ := hu
 rfl
section
variable {P : Program} {w w' : World} {B n c base e : Nat} {A : Option Addr} {l : List UInt8}
theorem Reads.len_ (h : Reads w B 1 A n (u8s l)) : l.length = n := by have := h.1; rw [u8s_length] at this; omega
theorem Reads.u8_ (h : Reads w B 1 A n (u8s l)) {k : Nat} (hk : k < n) : ∃ ad, A = some ad ∧ ad.block < B ∧ w.cell? (ad.add k) = some (.int .u8 (l.getD k 0).toNat) := by
 obtain ⟨ad, u, e, hb, hx, hc⟩ := h.at_ hk
 refine ⟨ad, e, hb, ?_⟩
 have hl : k < l.length := by rw [h.len_]; exact hk
 rw [u8s_get, List.getElem?_eq_getElem hl] at hx
 rw [hc, ← hx]
 simp [List.getD, List.getElem?_eq_getElem hl]
theorem run_string_of {src dst e : TypeId} (hs : P.underlying src = some (.slice e)) (he : P.underlying e = some (.int .u8)) (hd : P.underlying dst = some .string) (h : Reads w B 1 A n (u8s l)) :
 (convert src dst (.slice A n c)).run P w = .ok (.string ⟨l.toArray⟩) w := by
 have hl := h.len_
 rcases A with _ | ad
 · have h0 : n = 0 := by
    rcases Nat.eq_zero_or_pos n with h1 | h1
    · exact h1
    · obtain ⟨_, h2, _⟩ := h.2 h1; cases h2
   subst h0
   have hx : l = [] := List.eq_nil_of_length_eq_zero hl
   subst hx
   exact run_convert_bytes_nil (P := P) w src e hs he 0 c dst hd
 · have hl2 : (loadCells ad n).run P w = .ok (u8s l).toArray w := by
    have := run_loadCells_list (P := P) w ad (u8s l) (fun j v hj => by
     have hjl : j < l.length := by
      rcases Nat.lt_or_ge j l.length with h1 | h1
      · exact h1
      · rw [List.getElem?_eq_none (by rw [u8s_length]; exact h1)] at hj; cases hj
     obtain ⟨ad', e1, _, hc⟩ := h.2 (by omega)
     injection e1 with e1
     subst e1
     exact hc j v hj)
    rwa [u8s_length, hl] at this
   have hm : u8s l = (l.map fun b => (b.toNat : Int)).map (Value.int .u8) := by simp [u8s]
   rw [hm] at hl2
   rw [run_convert_bytes_string w src dst e _ n c hs he hd, run_bytesToString w ad n c _ hl2, foldl_push_bytes]
   simp [Function.comp_def]
end
section
variable {P : Program} {w : World} {base e n c : Nat} {A : Option Addr} {xs : List Value}
theorem run_appStr {t u ty : TypeId} (hi : Elem P t e 1 1) (hz : (P.info? e).bind (·.zero) = some (.int .u8 0)) (hu : P.underlying u = some .string) (hown : Own w base e 1 A n c xs) (s : ByteArray)
 (hbytes : n + s.size ≤ 140737488355328) (hbase : base ≤ w.heap.size) :
 ∃ A' c' w', (Builtin.append_ #[t, u] ty #[.slice A n c, .string s]).run P w = .ok (.slice A' (n + s.size) c') w' ∧ Own w' base e 1 A' (n + s.size) c' (xs ++ u8s s.data.toList) ∧ Upd (fun k => blockOf A = some k) w w' ∧
  (blockOf A' = blockOf A ∨ ∃ g, A' = some ⟨g, 0, none⟩ ∧ w.heap.size ≤ g) := by
 obtain ⟨i, z, ht, hi, hzi, hsize, hby, hzs, hsz, hb0⟩ := hi
 rw [hi, Option.bind_some] at hz
 have h63 : n + s.size ≤ maxLen := by unfold maxLen; omega
 obtain ⟨v', w', hr, h2, h3, _⟩ := Lib.run_append_own_string (P := P) w base t u ty e i ht hu hi hz hsize hby _ n xs hown s h63 hbytes hbase
 have ho : (Value.slice A n c).ownBlock = blockOf A := by cases A <;> rfl
 rw [ho] at h3
 have hform : ∃ A' c', v' = .slice A' (n + s.size) c' := by
  rcases h2.2 with ⟨rfl, e0⟩ | ⟨g, cap, cur, rfl, _⟩
  · exact ⟨none, 0, by rw [e0]⟩
  · exact ⟨_, _, rfl⟩
 obtain ⟨A', c', rfl⟩ := hform
 refine ⟨A', c', w', hr, h2, ⟨h3.os, h3.tape, h3.output, h3.size, fun k hk hn => h3.block k hk (fun e => hn e.symm)⟩, ?_⟩
 rcases hown.form with ⟨rfl, rfl, rfl, rfl⟩ | ⟨g, cur, rfl, hbg, hg, hnc, hcm, hcs, htake⟩
 · by_cases hm : s.size = 0
   · left
     rcases Own.form h2 with ⟨rfl, _⟩ | ⟨g', cur', rfl, _, hh, _⟩
     · rfl
     · exfalso
       have hf := Lib.run_firstCells_string (P := P) w 1 s
       rw [hm] at hf
       have : (Builtin.append_ #[t, u] ty #[.slice none 0 0, .string s]).run P w = .ok (.slice none 0 0) w := by
        simp [Builtin.append_, run_underlying ht, run_underlying hu, sizeOf, typeInfo, hi, hsize, Builtin.lenOf, hm, hf]
       rw [this] at hr
       injection hr with h1
       cases h1
   · right
     have hr' := run_append_nil_string (P := P) w t u ty e i (.int .u8 0) ht hu hi hz s (by omega) (by omega) (by rw [hby]; omega)
     rw [hr'] at hr
     injection hr with h1
     injection h1 with h1
     exact ⟨w.heap.size, h1.symm, Nat.le_refl _⟩
 · by_cases hroom : n + s.size ≤ c
   · left
     have hr' := Lib.run_append_room_string (P := P) w t u ty e i ht hu hi hsize g n c cur hg s hroom (by omega)
     rw [hr'] at hr
     injection hr with h1
     injection h1 with h1
     rw [← h1]
   · right
     have hxl : xs.length = n := by simpa using hown.length
     have holds : ∀ j u, xs[j]? = some u → w.cell? ((⟨g, 0, none⟩ : Addr).add j) = some u := World.ownsRow.cells (g := g) hown rfl
     have hr' := Lib.run_append_grow_string (P := P) w t u ty e i (.int .u8 0) ht hu hi hz ⟨g, 0, none⟩ n c xs (by rw [hsize]; simpa using hxl) holds s (by omega) (by omega) (by rw [hby]; exact growslice_fits (by omega) (by omega))
     rw [hr'] at hr
     injection hr with h1
     injection h1 with h1
     exact ⟨w.heap.size, h1.symm, Nat.le_refl _⟩
theorem wpList_appStr {t u : TypeId} {ops : Array Oper} {rest : List Oper} {o : Oper} {a : Act} {Q : Exit → Act → World → Prop} (hi : Elem P t e 1 1) (hz : (P.info? e).bind (·.zero) = some (.int .u8 0)) (hu : P.underlying u = some .string) (hown : Own w base e 1 A n c xs) (s : ByteArray)
 (hbytes : n + s.size ≤ 140737488355328) (hbase : base ≤ w.heap.size)
 (sl x : Operand) (hgd : o.guard = none) (ho : o.op = .call { callee := .builtin .append, args := #[sl, x], argTypes := #[t, u] }) (hs : a.eval sl = .slice A n c) (hx : a.eval x = .string s)
 (h : ∀ A' c' w', Own w' base e 1 A' (n + s.size) c' (xs ++ u8s s.data.toList) → Upd (fun k => blockOf A = some k) w w' → (blockOf A' = blockOf A ∨ ∃ g, A' = some ⟨g, 0, none⟩ ∧ w.heap.size ≤ g) → wpList P ops Q rest (a.put o.dst (.slice A' (n + s.size) c')) w') : wpList P ops Q (o :: rest) a w := by
 refine wpList_plain hgd fun K hK => ?_
 obtain ⟨A', c', w', hr, h2, h3, h4⟩ := run_appStr (P := P) (ty := o.type) hi hz hu hown s hbytes hbase
 unfold Oper.wp execOp
 simp only [ho, resolve, invoke, builtin, Sem.run_bind, Sem.run_pure, Result.andThen_ok, List.map_toArray, List.map_cons, List.map_nil, hs, hx, hr]
 exact hK _ _ (h A' c' w' h2 h3 h4)
end
theorem wpAnyH_more {P : Program} {md : Region.Mode} {ops : Array Oper} {Q : Exit → Act → World → Prop} {S S' : World → Prop} (hS : ∀ w, S' w → S w) : ∀ (fuel : Nat) (listed : Array Bool) (a : Act) (w : World), wpAnyH P md ops Q S' fuel listed a w → wpAnyH P md ops Q S fuel listed a w
 | 0, _, _, _, h => h
 | fuel + 1, _, _, _, h => ⟨h.1, fun i hi => wpOp_mono (fun a' w' h' => ⟨hS _ h'.1, wpAnyH_more hS fuel _ a' w' h'.2⟩) (h.2 i hi)⟩
theorem below_drew (w : World) : Below w.heap.size w w.drew := (Below.refl _ w).drew
def Keeps (w : World) (F : World → Prop) : Prop := ∀ w', Below w.heap.size w w' → F w'
section
variable {w w' : World} {F G : World → Prop} {base e size n c B : Nat} {A : Option Addr} {xs : List Value}
theorem Keeps.now (h : Keeps w F) : F w := h w (Below.refl _ _)
theorem Keeps.at_ (h : Keeps w F) (hb : Below w.heap.size w w') : F w' := h w' hb
theorem Keeps.on (h : Keeps w F) (hb : Below w.heap.size w w') : Keeps w' F := fun _ h2 => h _ (hb.trans (h2.mono hb.size))
theorem Keeps.drew (h : Keeps w F) : Keeps w.drew F := h.on (Below.refl _ w).drew
theorem Keeps.and (h : Keeps w F) (k : Keeps w G) : Keeps w (fun w => F w ∧ G w) := fun _ hb => ⟨h _ hb, k _ hb⟩
theorem Reads.keeps (h : Reads w B size A n xs) (hB : B ≤ w.heap.size) : Keeps w (fun w => Reads w w.heap.size size A n xs) :=
 fun _ hb => (h.below (hb.mono hB)).more (Nat.le_trans hB hb.size)
theorem Own.keepsR (h : Own w base e size A n c xs) : Keeps w (fun w => Reads w w.heap.size size A n xs) := h.reads.keeps (Nat.le_refl _)
end
section
variable {P : Program} {t e : TypeId} {size : Nat}
theorem cut_low (ht : P.underlying t = some (.slice e)) (hz : (P.info? e).map (·.size) = some size) (A : Option Addr) {n c lo : Nat} (hlo : lo ≤ n) (hn : n ≤ c) :
 ∃ PA, (∀ w, (Instr.slice t (.slice A n c) (some (.int .i64 (lo : Int))) none none).run P w = .ok (.slice PA (n - lo) (c - lo)) w) ∧
  ∀ w B xs, Reads w B size A n xs → Reads w B size PA (n - lo) (xs.drop (lo * size)) := by
 obtain ⟨i, hi, hs⟩ := Option.map_eq_some_iff.1 hz
 refine ⟨if c = lo then A else A.map (·.add (lo * size)), fun w => ?_, fun w B xs hr => hr.cut hlo hn⟩
 simp [Instr.slice, Instr.sliceBounds, Instr.sliceBound, asIntOf, run_underlying ht, sizeOf, typeInfo, hi, hs, hlo]
theorem cut_both (ht : P.underlying t = some (.slice e)) (hz : (P.info? e).map (·.size) = some size) (A : Option Addr) {n c lo hi : Nat} (hlo : lo ≤ hi) (hhi : hi ≤ n) (hn : n ≤ c) :
 ∃ PA, (∀ w, (Instr.slice t (.slice A n c) (some (.int .i64 (lo : Int))) (some (.int .i64 (hi : Int))) none).run P w = .ok (.slice PA (hi - lo) (c - lo)) w) ∧
  ∀ w B xs, Reads w B size A n xs → Reads w B size PA (hi - lo) ((xs.drop (lo * size)).take ((hi - lo) * size)) := by
 obtain ⟨i, hi', hs⟩ := Option.map_eq_some_iff.1 hz
 refine ⟨if c = lo then A else A.map (·.add (lo * size)), fun w => ?_, fun w B xs hr => (hr.cut (Nat.le_trans hlo hhi) hn).take (by omega)⟩
 have h2 : hi ≤ c := by omega
 simp [Instr.slice, Instr.sliceBounds, Instr.sliceBound, asIntOf, run_underlying ht, sizeOf, typeInfo, hi', hs, hlo, h2]
theorem cut_high (ht : P.underlying t = some (.slice e)) (hz : (P.info? e).map (·.size) = some size) (A : Option Addr) {n c hi : Nat} (hhi : hi ≤ c) (w : World) :
 (Instr.slice t (.slice A n c) none (some (.int .i64 (hi : Int))) none).run P w = .ok (.slice A hi c) w := by
 obtain ⟨i, hi', -⟩ := Option.map_eq_some_iff.1 hz
 have h3 : A.map (·.add 0) = A := by cases A <;> simp [Addr.add]
 have h4 : Option.map (fun x => x.add 0) A = A := h3
 simp [Instr.slice, Instr.sliceBounds, Instr.sliceBound, asIntOf, run_underlying ht, sizeOf, typeInfo, hi', hhi, h4]
end
def strs (ks : List ByteArray) : List Value := ks.map Value.string
def eqRows (d : Nat) (xs ys : Array Value) : List (Bool × TypeId × Nat) → Sem Bool
 | [] => pure true
 | (b, t, o) :: fs => if b then do
  let a ← part t xs o
  let c ← part t ys o
  let r ← Op.equalIn d t a c
  if (!r) = true then pure false else eqRows d xs ys fs
  else eqRows d xs ys fs
def fieldRows (P : Program) (t : TypeId) : List (Bool × TypeId × Nat) := (P.fieldsOf t).toList.map fun f => (f.name != "_", f.type, f.offset)
theorem eqFields_rows (d : Nat) (xs ys : Array Value) : ∀ fs : List Field, Op.eqFields d xs ys fs = eqRows d xs ys (fs.map fun f => (f.name != "_", f.type, f.offset))
 | [] => rfl
 | f :: fs => by
  simp only [Op.eqFields, List.map_cons, eqRows]
  rw [eqFields_rows d xs ys fs]
  by_cases h : f.name = "_" <;> simp [h]
theorem run_equal_rows {P : Program} {rows : List (Bool × TypeId × Nat)} (w : World) (d : Nat) (t : TypeId) (xs ys : Array Value) (ht : P.underlying t = some (.struct (P.fieldsOf t))) (hp : P.stoodInHeld t = false) (hr : fieldRows P t = rows) :
 (Op.equalIn (d + 1) t (.agg xs) (.agg ys)).run P w = (eqRows d xs ys rows).run P w := by
 rw [run_equalIn_struct w d t xs ys ht hp, eqFields_rows]
 unfold fieldRows at hr
 rw [hr]
theorem run_neq_of {P : Program} {t : TypeId} {xs ys : Array Value} {w : World} {b : Bool} (h : (Op.equalIn 10000 t (.agg xs) (.agg ys)).run P w = .ok b w) : (binOp .neq t (.agg xs) (.agg ys)).run P w = .ok (.bool (!b)) w := by
 rw [run_neq_struct, h]
 rfl
section
variable {α : Type} {f : α → List Value} {m : Nat}
def flat (f : α → List Value) (l : List α) : List Value := l.flatMap f
theorem flat_cons (a : α) (l : List α) : flat f (a :: l) = f a ++ flat f l := rfl
theorem flat_length (hf : ∀ a, (f a).length = m) : ∀ l : List α, (flat f l).length = l.length * m
 | [] => by simp [flat]
 | a :: l => by rw [flat_cons, List.length_append, flat_length hf l, hf, List.length_cons, Nat.succ_mul]; omega
theorem flat_get (hf : ∀ a, (f a).length = m) : ∀ {l : List α} {k : Nat} {a : α}, l[k]? = some a → ∀ j, j < m → (flat f l)[k * m + j]? = (f a)[j]?
 | [], k, a, h, _, _ => by simp at h
 | b :: l, 0, a, h, j, hj => by
  simp at h
  subst h
  rw [flat_cons, List.getElem?_append_left (by rw [hf]; omega), Nat.zero_mul, Nat.zero_add]
 | b :: l, k + 1, a, h, j, hj => by
  have ih := flat_get hf (l := l) (k := k) (a := a) (by simpa using h) j hj
  rw [flat_cons, List.getElem?_append_right (by rw [hf, Nat.succ_mul]; omega), hf, ← ih]
  congr 1
  rw [Nat.succ_mul]
  omega
end
section
variable {P : Program} {w : World}
theorem cel_fields {n : Nat} {t : TypeId} {fs : Array Field} {cs : List Value} {k : Nat} {rows : List (TypeId × Nat × Nat)} (ht : P.underlying t = some (.struct fs)) (hk : P.cellsOf t = k) (hr : (fs.toList.map fun f => (f.type, f.offset, P.cellsOf f.type)) = rows) (h : Cel P w n t cs) :
 cs.length = k ∧ ∃ m, ∀ r ∈ rows, Cel P w m r.1 ((cs.drop r.2.1).take r.2.2) := by
 obtain ⟨hl, m, hf⟩ := cel_struct ht h
 refine ⟨hl.trans hk, m, fun r hmem => ?_⟩
 rw [← hr] at hmem
 obtain ⟨f, hf1, rfl⟩ := List.mem_map.1 hmem
 exact hf f hf1
theorem choose_rows {α : Type} [Inhabited α] {P : Nat → α → Prop} {n : Nat} (h : ∀ i, i < n → ∃ x, P i x) : ∃ xs : List α, xs.length = n ∧ ∀ i, i < n → ∃ x, xs[i]? = some x ∧ P i x := by
 induction n with
 | zero => exact ⟨[], rfl, fun i hi => absurd hi (by omega)⟩
 | succ n ih =>
  obtain ⟨xs, hl, hx⟩ := ih fun i hi => h i (by omega)
  obtain ⟨y, hy⟩ := h n (by omega)
  refine ⟨xs ++ [y], by simp [hl], fun i hi => ?_⟩
  rcases Nat.lt_or_ge i n with h1 | h1
  · obtain ⟨x, h2, h3⟩ := hx i h1
    exact ⟨x, by rw [List.getElem?_append_left (by omega)]; exact h2, h3⟩
  · obtain rfl : i = n := by omega
    exact ⟨y, by rw [List.getElem?_append_right (by omega), hl]; simp, hy⟩
end
def ints (xs : List Int) : List Value := xs.map (Value.int .i64)
def asIs (v : Value) : Option (DataW Value × List MemPlace) := some (.held v, [])
def MapI (w : World) (P : Program) (k : TypeId) (b n : Nat) (z : Value) (f : Int → Value) : Prop :=
 ∃ D : DataW Value, w.ownsMap P k asIs b n D ∧ ∀ x, (Lit.int .i64 x).wf = true → D.atKey (.int .i64 x) (.held z) = .held (f x)
section
variable {P : Program} {w : World} {k e t : TypeId} {b n : Nat} {z : Value} {f : Int → Value}
theorem MapI.made (w : World) (P : Program) (k : TypeId) (z : Value) : MapI (w.alloc (.map #[] 0)) P k w.heap.size 0 z (fun _ => z) :=
 ⟨.map [], World.ownsMap_made w P k asIs, fun _ _ => by simp [DataW.atKey]⟩
theorem MapI.lt (h : MapI w P k b n z f) : b < w.heap.size := by
 obtain ⟨D, h, _⟩ := h
 exact h.lt
theorem MapI.block {w' : World} (h : MapI w P k b n z f) (e : w'.heap[b]? = w.heap[b]?) : MapI w' P k b n z f := by
 obtain ⟨D, ⟨es, clock, hb, F, hs, hD⟩, h2⟩ := h
 exact ⟨D, ⟨es, clock, e.trans hb, F, hs, hD⟩, h2⟩
theorem MapI.look (h : MapI w P k b n z f) (hk : P.underlying k = some (.int .i64)) (ht : P.underlying t = some (.map k e)) (hz : ∀ w, (zeroValue e).run P w = .ok z w) {x : Int} (hx : (Lit.int .i64 x).wf = true) :
 (Instr.lookup t (.map (some b)) (.int .i64 x) false).run P w = .ok (f x) w := by
 obtain ⟨D, h, h2⟩ := h
 obtain ⟨v, ps, hrun, hv⟩ := h.lookup (Maps.int_keyed hk) ht (hz w) (zd := .held z) (zp := []) rfl (Maps.keyOf_int_mk hk hx)
 rw [h2 x hx] at hv
 simp only [asIs, Option.some.injEq, Prod.mk.injEq, DataW.held.injEq] at hv
 rw [hrun, hv.1]
def put (f : Int → Value) (x : Int) (v : Value) : Int → Value := fun y => if y = x then v else f y
theorem MapI.put_ (h : MapI w P k b n z f) (hk : P.underlying k = some (.int .i64)) (ht : P.underlying t = some (.map k e)) (hn : n < maxLen) {x : Int} (hx : (Lit.int .i64 x).wf = true) (v : Value) :
 ∃ w', (Instr.mapUpdate t (.map (some b)) (.int .i64 x) v).run P w = .ok () w' ∧ MapI w' P k b (n + 1) z (put f x v) ∧ Upd (fun k => k = b) w w' := by
 obtain ⟨D, h, h2⟩ := h
 have hD : Maps.IsMap D := by
  obtain ⟨es, clock, _, _, _, rfl⟩ := h
  exact ⟨_, rfl⟩
 obtain ⟨w', h3, h4, h5⟩ := h.update (Maps.int_keyed hk) ht hn (d := .held v) (ps := []) (val := v) (Maps.keyOf_int_mk hk hx) rfl
 refine ⟨w', h3, ⟨_, h4, fun y hy => ?_⟩, (Upd.refl (fun k => k = b) w).grown h5 (fun k e _ => by injection e with e; exact e.symm)⟩
 unfold put
 by_cases e : y = x
 · subst e
   rw [if_pos rfl, Maps.atKey_put_same hD (by simp [WideAt.IsKeyLit])]
 · rw [if_neg e, Maps.atKey_put_other (by intro h; injection h with _ h; exact e h)]
   exact h2 y hy
end
theorem u8_castB {m : Nat} (h : m < 256) : ((UInt8.ofNat m).toNat : Int) = m := by simp; omega
theorem cells_u8 : Tryz.prog.cellsOf 5 = 1 := by kernel_rfl
theorem bytes_u8 : Tryz.prog.bytesOf 5 = 1 := by kernel_rfl
theorem bytes_of (w : World) (a : Addr) (len cap : Nat) (hl : len ≤ cap)
 (hc : ∀ i, i < cap → ∃ m cs', cs'.length = Tryz.prog.cellsOf 5 ∧ (∀ j, j < Tryz.prog.cellsOf 5 → w.cell? ((a.add (i * Tryz.prog.cellsOf 5)).add j) = cs'[j]?) ∧ Cel Tryz.prog w m 5 cs') :
 ∃ l : List UInt8, Reads w w.heap.size 1 (some a) len (u8s l) := by
 have hx : ∀ i, i < cap → ∃ x : UInt8, w.cell? (a.add i) = some (.int .u8 x.toNat) := by
  intro i hi
  rw [cells_u8] at hc
  obtain ⟨m, cs, h1, h2, h3⟩ := hc i hi
  obtain ⟨x, rfl, hw⟩ := cel_int Tryz.underlying5 h3
  have hw2 : 0 ≤ x ∧ x < 256 := by
   simp only [Lit.wf, Bool.and_eq_true, decide_eq_true_eq] at hw
   have e1 : IntKind.u8.min = 0 := by decide
   have e2 : IntKind.u8.max = 255 := by decide
   omega
  refine ⟨UInt8.ofNat x.toNat, ?_⟩
  have h := h2 0 (by omega)
  rw [add_of_add] at h
  rw [u8_castB (by omega), Int.toNat_of_nonneg hw2.1]
  simpa using h
 refine ⟨(List.range len).map (fun i => match w.cell? (a.add i) with | some (.int _ x) => UInt8.ofNat x.toNat | _ => 0), by simp [u8s], fun hn => ⟨a, rfl, ?_, fun j u hu => ?_⟩⟩
 · obtain ⟨x, h⟩ := hx 0 (by omega)
   have := World.block_lt_of_cell? w _ h
   rwa [block_of_add] at this
 · have hj : j < len := by
    have := (List.getElem?_eq_some_iff.1 hu).1
    simpa [u8s] using this
   obtain ⟨x, h⟩ := hx j (by omega)
   rw [h]
   simp only [u8s, List.getElem?_map, List.getElem?_range hj, Option.map_some, h] at hu
   rw [← hu]
   simp
set_option maxRecDepth 100000 in
theorem val_bytes {w : World} {v : Value} (h : Val Tryz.prog w 47 v) : ∃ A n c l, v = .slice A n c ∧ Reads w w.heap.size 1 A n (u8s l) ∧ n ≤ c ∧ c ≤ 140737488351232 := by
 rcases val_slice Tryz.underlying47 h with rfl | ⟨a, len, cap, rfl, hl, hm, hb, hc⟩
 · exact ⟨none, 0, 0, [], rfl, Reads.none_, Nat.le_refl _, by omega⟩
 · obtain ⟨l, hr⟩ := bytes_of w a len cap hl hc
   rw [bytes_u8] at hb
   unfold reachBytes at hb
   exact ⟨some a, len, cap, l, rfl, hr, hl, by omega⟩
end Go.Proofs.YtacbkganjkipdaaGreatDoor
namespace Go.Proofs.YtacbkganjkipdaaGreatDoor
open Go.ChangeShapes Go.WideShapes Go.ChangeAt Go.RowKit
end Go.Proofs.YtacbkganjkipdaaGreatDoor
