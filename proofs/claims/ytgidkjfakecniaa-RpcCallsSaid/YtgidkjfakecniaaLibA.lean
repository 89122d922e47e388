/-
  Arguments as plain data: 'Cel P w n t cs' says that the cells cs hold a value of type t (read to depth n). A law's last step, once for all: 'lift_law'.
-/
import Derived.WalkKit
import Derived.ProofKit
import Derived.Carry
import Derived.ChangeOld
import Derived.SizedLaws
import Derived.Below
import Derived.OpenShut
namespace Go.Proofs.Ytgidkjfakecniaa
open Go.ChangeShapes Go.WideShapes Go.ChangeAt Go.RowKit

/-- The cells hold a value of the type, in this memory. -/
def Cel (P : Program) (w : World) : Nat → TypeId → List Value → Prop
  | 0, _, _ => False
  | n + 1, t, cs =>
    match P.underlying t with
    | some .bool => ∃ b, cs = [.bool b]
    | some (.int k) => ∃ m, cs = [.int k m] ∧ (Lit.int k m).wf = true
    | some .string => ∃ s : ByteArray, cs = [.string s] ∧ s.size ≤ maxLen ∧ s.size ≤ reachBytes
    | some (.slice e) => cs = [.slice none 0 0] ∨ ∃ (a : Addr) (len cap : Nat), cs = [.slice (some a) len cap] ∧ len ≤ cap ∧ cap ≤ maxLen ∧ cap * P.bytesOf e ≤ reachBytes ∧
        ∀ i, i < cap → ∃ cs', cs'.length = P.cellsOf e ∧ (∀ j, j < P.cellsOf e → w.cell? ((a.add (i * P.cellsOf e)).add j) = cs'[j]?) ∧ Cel P w n e cs'
    | some (.struct fs) => cs.length = P.cellsOf t ∧ ∀ f ∈ fs.toList, Cel P w n f.type ((cs.drop f.offset).take (P.cellsOf f.type))
    | some (.array m e) => cs.length = P.cellsOf t ∧ ∀ i ∈ List.range m, Cel P w n e ((cs.drop (i * P.cellsOf e)).take (P.cellsOf e))
    | _ => True

section
variable {H : Type} {enc : TypeId × Value → H} {P : Program} {w : World}

theorem cel_int {n : Nat} {t : TypeId} {k : IntKind} {cs : List Value} (ht : P.underlying t = some (.int k)) (h : Cel P w n t cs) : ∃ m, cs = [.int k m] ∧ (Lit.int k m).wf = true := by
  cases n with
  | zero => exact h.elim
  | succ n => simpa only [Cel, ht] using h
theorem cel_bool {n : Nat} {t : TypeId} {cs : List Value} (ht : P.underlying t = some .bool) (h : Cel P w n t cs) : ∃ b, cs = [.bool b] := by
  cases n with
  | zero => exact h.elim
  | succ n => simpa only [Cel, ht] using h
theorem cel_string {n : Nat} {t : TypeId} {cs : List Value} (ht : P.underlying t = some .string) (h : Cel P w n t cs) : ∃ s : ByteArray, cs = [.string s] ∧ s.size ≤ maxLen ∧ s.size ≤ reachBytes := by
  cases n with
  | zero => exact h.elim
  | succ n => simpa only [Cel, ht] using h
theorem cel_slice {n : Nat} {t e : TypeId} {cs : List Value} (ht : P.underlying t = some (.slice e)) (h : Cel P w n t cs) :
    cs = [.slice none 0 0] ∨ ∃ (a : Addr) (len cap : Nat), cs = [.slice (some a) len cap] ∧ len ≤ cap ∧ cap ≤ maxLen ∧ cap * P.bytesOf e ≤ reachBytes ∧
        ∀ i, i < cap → ∃ m cs', cs'.length = P.cellsOf e ∧ (∀ j, j < P.cellsOf e → w.cell? ((a.add (i * P.cellsOf e)).add j) = cs'[j]?) ∧ Cel P w m e cs' := by
  cases n with
  | zero => exact h.elim
  | succ n =>
    simp only [Cel, ht] at h
    rcases h with h | ⟨a, len, cap, h1, h2, h3, h4, h5⟩
    · exact .inl h
    · exact .inr ⟨a, len, cap, h1, h2, h3, h4, fun i hi => let ⟨cs', k1, k2, k3⟩ := h5 i hi; ⟨n, cs', k1, k2, k3⟩⟩
theorem cel_struct {n : Nat} {t : TypeId} {fs : Array Field} {cs : List Value} (ht : P.underlying t = some (.struct fs)) (h : Cel P w n t cs) :
    cs.length = P.cellsOf t ∧ ∃ m, ∀ f ∈ fs.toList, Cel P w m f.type ((cs.drop f.offset).take (P.cellsOf f.type)) := by
  cases n with
  | zero => exact h.elim
  | succ n =>
    simp only [Cel, ht] at h
    exact ⟨h.1, n, h.2⟩
theorem cel_array {n m : Nat} {t e : TypeId} {cs : List Value} (ht : P.underlying t = some (.array m e)) (h : Cel P w n t cs) :
    cs.length = P.cellsOf t ∧ ∃ k, ∀ i ∈ List.range m, Cel P w k e ((cs.drop (i * P.cellsOf e)).take (P.cellsOf e)) := by
  cases n with
  | zero => exact h.elim
  | succ n =>
    simp only [Cel, ht] at h
    exact ⟨h.1, n, h.2⟩

theorem weights_mem_all {e : TypeId} : ∀ {ds : List (DataW H)} {d : DataW H}, d ∈ ds → ∀ n ∈ d.weights P e, n ∈ DataW.weightsAll P e ds
  | [], _, h, _, _ => absurd h List.not_mem_nil
  | d0 :: ds, d, h, n, hn => by
    simp only [DataW.weightsAll, List.mem_append]
    rcases List.mem_cons.1 h with rfl | h
    · exact .inl hn
    · exact .inr (weights_mem_all h n hn)

theorem weights_mem_each' : ∀ {ts : List TypeId} {ds : List (DataW H)} {j : Nat} {t : TypeId} {d : DataW H}, ts[j]? = some t → ds[j]? = some d → ∀ n ∈ d.weights P t, n ∈ DataW.weightsEach P ts ds :=
  fun h1 h2 n h3 => DataW.weights_mem_each h1 h2 n h3

def Sized (P : Program) (t : TypeId) (d : DataW H) : Prop := ∀ n ∈ d.weights P t, n ≤ reachBytes

theorem trod_array' {t u : TypeId} {n fuel : Nat} {cs : List Value} {x : DataW H × List MemPlace} (ht : P.underlying t = some (.array n u))
    (h : DataW.trod enc P w 0 (fun _ => true) true fuel t cs = some x) :
    ∃ (xs : List (DataW H × List MemPlace)) (m : Nat), fuel = m + 1 ∧ x = (.agg (xs.map (·.1)), xs.flatMap (·.2)) ∧ cs.length = P.cellsOf t ∧ xs.length = n ∧
      ∀ i, i < n → DataW.trod enc P w 0 (fun _ => true) true m u ((cs.drop (i * P.cellsOf u)).take (P.cellsOf u)) = xs[i]? := by
  cases fuel with
  | zero => simp [DataW.trod] at h
  | succ m =>
    unfold DataW.trod at h
    rw [ht] at h
    split at h <;> simp_all
    obtain ⟨hl, xs, hp, hd⟩ := h
    exact ⟨xs, hd.symm, by simpa using mapM_some_length hp, fun i hi => mapM_some_get hp i i (by simp [hi])⟩

theorem cel_of_trod : ∀ (fuel : Nat) {t : TypeId} {cs : List Value} {x : DataW H × List MemPlace},
    DataW.trod enc P w 0 (fun _ => true) true fuel t cs = some x → Sized P t x.1 → Cel P w fuel t cs
  | 0, t, cs, x, h, _ => by simp [DataW.trod] at h
  | fuel + 1, t, cs, x, h, hz => by
    unfold Cel
    split
    · rename_i hk
      obtain ⟨b, h1, _⟩ := DataW.trod_bool hk h
      exact ⟨b, h1⟩
    · rename_i k hk
      obtain ⟨n, h1, _, h3⟩ := DataW.trod_int hk h
      exact ⟨n, h1, h3⟩
    · rename_i hk
      obtain ⟨s, h1, rfl, h3⟩ := DataW.trod_string hk h
      refine ⟨s, h1, h3, ?_⟩
      have := hz s.data.toList.length (by simp [DataW.weights])
      simpa using this
    · rename_i u hk
      rcases DataW.trod_slice hk h with ⟨h1, _⟩ | ⟨a, len, cap, elems, rest, n, hf, rfl, rfl, _, hl, hm, hlen, hel, hsp, _⟩
      · exact .inl h1
      · right
        obtain rfl : fuel = n := by omega
        obtain ⟨hr1, hr2⟩ := hsp rfl
        have hw : ∀ y ∈ elems ++ rest, Sized P u y.1 := by
          intro y hy n hn
          refine hz n ?_
          simp only [DataW.weights, hk, List.mem_cons, List.mem_append]
          right
          rcases List.mem_append.1 hy with hy | hy
          · exact .inl (weights_mem_all (List.mem_map_of_mem hy) n hn)
          · exact .inr (weights_mem_all (List.mem_map_of_mem hy) n hn)
        have hcb : cap * P.bytesOf u ≤ reachBytes := by
          have := hz ((elems.length + rest.length) * P.bytesOf u) (by simp [DataW.weights, hk])
          rw [hlen, hr1] at this
          rwa [show len + (cap - len) = cap by omega] at this
        refine ⟨a, len, cap, rfl, hl, hm, hcb, fun i hi => ?_⟩
        have key : (w.cells? 0 (a.add (i * P.cellsOf u)) (P.cellsOf u)).bind (DataW.trod enc P w 0 (fun _ => true) true fuel u) = (elems ++ rest)[i]? := by
          by_cases hil : i < len
          · rw [hel i hil, List.getElem?_append_left (by omega)]
          · have := hr2 (i - len) (by omega)
            rw [show len + (i - len) = i by omega] at this
            rw [this, List.getElem?_append_right (by omega), hlen]
        have hlt : i < (elems ++ rest).length := by simp; omega
        rw [List.getElem?_eq_getElem hlt] at key
        obtain ⟨cs', k1, k2⟩ := Option.bind_eq_some_iff.1 key
        obtain ⟨_, k3, k4⟩ := World.cells?_some k1
        exact ⟨cs', k3, k4, cel_of_trod fuel k2 (hw _ (List.getElem_mem hlt))⟩
    · rename_i gs hk
      obtain ⟨xs, n, hfu, rfl, hl, hlen, hf⟩ := DataW.trod_struct hk h
      obtain rfl : fuel = n := by omega
      refine ⟨hl, fun f hfm => ?_⟩
      obtain ⟨i, hi, hfi⟩ := List.mem_iff_getElem.1 hfm
      have hgi : gs[i]? = some f := by simp at hi; simp [← hfi, hi]
      have h1 := hf i f hgi
      have hlt : i < xs.length := by rw [hlen]; simpa using hi
      rw [List.getElem?_eq_getElem hlt] at h1
      refine cel_of_trod fuel h1 (fun k hk' => hz k ?_)
      simp only [DataW.weights, hk]
      exact DataW.weights_mem_each (j := i) (by rw [List.getElem?_map, Array.getElem?_toList, hgi]; rfl) (by rw [List.getElem?_map, List.getElem?_eq_getElem hlt]; rfl) k hk'
    · rename_i n u hk
      obtain ⟨xs, m, hfu, rfl, hl, hlen, hf⟩ := trod_array' hk h
      obtain rfl : fuel = m := by omega
      refine ⟨hl, fun i hi => ?_⟩
      have hin : i < n := by simpa using hi
      have h1 := hf i hin
      have hlt : i < xs.length := by omega
      rw [List.getElem?_eq_getElem hlt] at h1
      refine cel_of_trod fuel h1 (fun k hk' => hz k ?_)
      simp only [DataW.weights, hk]
      exact weights_mem_all (List.mem_map_of_mem (List.getElem_mem hlt)) k hk'
    · trivial

/-- A value of the type, in this memory: of one cell, or an aggregate. -/
def Val (P : Program) (w : World) (t : TypeId) (v : Value) : Prop :=
  match P.underlying t with
  | some (.struct _) | some (.array _ _) => ∃ (cs : Array Value) (n : Nat), v = .agg cs ∧ Cel P w n t cs.toList
  | some .bool | some (.int _) | some .string | some (.slice _) => v.oneCell' = true ∧ ∃ n, Cel P w n t [v]
  | _ => True

theorem val_of_trod {t : TypeId} {v : Value} {d : DataW H} {ps : List MemPlace} {base : Nat} (hok : Value.okWide P w .any base t v)
    (h : DataW.Trod enc P w 0 (fun _ => true) true t v d ps) (hz : Sized P t d) : Val P w t v := by
  obtain ⟨fuel, h⟩ := h
  have hc := cel_of_trod fuel h hz
  unfold Val
  split
  · rename_i fs hk
    unfold Value.okWide at hok
    rw [hk] at hok
    obtain ⟨cs, rfl, _⟩ := hok
    exact ⟨cs, fuel, rfl, by simpa [Value.cells] using hc⟩
  · rename_i hk
    unfold Value.okWide at hok
    rw [hk] at hok
    obtain ⟨cs, rfl, _⟩ := hok
    exact ⟨cs, fuel, rfl, by simpa [Value.cells] using hc⟩
  · rename_i hk
    obtain ⟨n, rfl⟩ := okWide_bool hk hok
    exact ⟨rfl, fuel, by simpa [Value.cells] using hc⟩
  · rename_i hk
    obtain ⟨n, rfl⟩ := okWide_int hk hok
    exact ⟨rfl, fuel, by simpa [Value.cells] using hc⟩
  · rename_i hk
    obtain ⟨n, rfl⟩ := okWide_string hk hok
    exact ⟨rfl, fuel, by simpa [Value.cells] using hc⟩
  · rename_i hk
    obtain ⟨a, l, c, rfl⟩ := okWide_slice hk hok
    exact ⟨rfl, fuel, by simpa [Value.cells] using hc⟩
  · trivial

theorem val_int {t : TypeId} {k : IntKind} {v : Value} (ht : P.underlying t = some (.int k)) (h : Val P w t v) : ∃ m, v = .int k m ∧ (Lit.int k m).wf = true := by
  simp only [Val, ht] at h
  obtain ⟨_, n, h⟩ := h
  obtain ⟨m, hm, hw⟩ := cel_int ht h
  exact ⟨m, by simpa using hm, hw⟩
theorem val_bool {t : TypeId} {v : Value} (ht : P.underlying t = some .bool) (h : Val P w t v) : ∃ b, v = .bool b := by
  simp only [Val, ht] at h
  obtain ⟨_, n, h⟩ := h
  obtain ⟨m, hm⟩ := cel_bool ht h
  exact ⟨m, by simpa using hm⟩
theorem val_string {t : TypeId} {v : Value} (ht : P.underlying t = some .string) (h : Val P w t v) : ∃ s : ByteArray, v = .string s ∧ s.size ≤ maxLen ∧ s.size ≤ reachBytes := by
  simp only [Val, ht] at h
  obtain ⟨_, n, h⟩ := h
  obtain ⟨m, hm, hw⟩ := cel_string ht h
  exact ⟨m, by simpa using hm, hw⟩
theorem val_slice {t e : TypeId} {v : Value} (ht : P.underlying t = some (.slice e)) (h : Val P w t v) :
    v = .slice none 0 0 ∨ ∃ (a : Addr) (len cap : Nat), v = .slice (some a) len cap ∧ len ≤ cap ∧ cap ≤ maxLen ∧ cap * P.bytesOf e ≤ reachBytes ∧
        ∀ i, i < cap → ∃ m cs', cs'.length = P.cellsOf e ∧ (∀ j, j < P.cellsOf e → w.cell? ((a.add (i * P.cellsOf e)).add j) = cs'[j]?) ∧ Cel P w m e cs' := by
  simp only [Val, ht] at h
  obtain ⟨_, n, h⟩ := h
  rcases cel_slice ht h with h | ⟨a, len, cap, h1, h2, h3, h4, h5⟩
  · exact .inl (by simpa using h)
  · exact .inr ⟨a, len, cap, by simpa using h1, h2, h3, h4, h5⟩
theorem val_struct {t : TypeId} {fs : Array Field} {v : Value} (ht : P.underlying t = some (.struct fs)) (h : Val P w t v) :
    ∃ cs : Array Value, v = .agg cs ∧ cs.toList.length = P.cellsOf t ∧ ∃ m, ∀ f ∈ fs.toList, Cel P w m f.type ((cs.toList.drop f.offset).take (P.cellsOf f.type)) := by
  simp only [Val, ht] at h
  obtain ⟨cs, n, rfl, h⟩ := h
  exact ⟨cs, rfl, cel_struct ht h⟩
theorem val_array {m : Nat} {t e : TypeId} {v : Value} (ht : P.underlying t = some (.array m e)) (h : Val P w t v) :
    ∃ cs : Array Value, v = .agg cs ∧ cs.toList.length = P.cellsOf t ∧ ∃ k, ∀ i ∈ List.range m, Cel P w k e ((cs.toList.drop (i * P.cellsOf e)).take (P.cellsOf e)) := by
  simp only [Val, ht] at h
  obtain ⟨cs, n, rfl, h⟩ := h
  exact ⟨cs, rfl, cel_array ht h⟩

/-- All arguments. -/
def Vals (P : Program) (w : World) : List TypeId → List Value → Prop
  | [], vs => vs = []
  | t :: ts, vs => ∃ v vs', vs = v :: vs' ∧ Val P w t v ∧ Vals P w ts vs'

theorem vals_of_trodAll {base : Nat} : ∀ {ts : List TypeId} {vs : List Value} {ds : List (DataW H)} {ps : List MemPlace},
    (∀ (j : Nat) t v, ts[j]? = some t → vs[j]? = some v → Value.okWide P w .any base t v) →
    DataW.TrodAll enc P w 0 (fun _ => true) true ts vs ds ps → (∀ n ∈ DataW.weightsEach P ts ds, n ≤ reachBytes) → Vals P w ts vs
  | [], vs, ds, ps, _, h, _ => by
    obtain ⟨rfl, _⟩ := trodAll_nil h
    exact rfl
  | t :: ts, vs, ds, ps, hok, h, hz => by
    obtain ⟨v, vs', d, ds', p, q, rfl, rfl, rfl, hv, hr⟩ := trodAll_cons h
    exact ⟨v, vs', rfl, val_of_trod (hok 0 t v rfl rfl) hv (fun n hn => hz n (by simp only [DataW.weightsEach, List.mem_append]; exact .inl hn)),
      vals_of_trodAll (fun j t' v' hj hj' => hok (j + 1) t' v' (by simpa using hj) (by simpa using hj')) hr (fun n hn => hz n (by simp only [DataW.weightsEach, List.mem_append]; exact .inr hn))⟩

def rowed (P : Program) (ts : List TypeId) : Bool := ts.all fun t => P.readableRec t && decide (t < P.types.size)

theorem trodAll_below (hl : laidOutB P = true) {W' : World} (hb : Below w.heap.size w W') : ∀ {ts : List TypeId} {vs : List Value} {ds : List (DataW H)} {ps : List MemPlace}, rowed P ts = true →
    DataW.TrodAll enc P w 0 (fun _ => true) true ts vs ds ps → DataW.TrodAll enc P W' 0 (fun b => decide (b < w.heap.size)) true ts vs ds ps
  | [], vs, ds, ps, _, h => by
    obtain ⟨rfl, rfl, rfl⟩ := trodAll_nil h
    exact rfl
  | t :: ts, vs, ds, ps, hT, h => by
    simp only [rowed, List.all_cons, Bool.and_eq_true, decide_eq_true_eq] at hT
    obtain ⟨⟨h2, h3⟩, h4⟩ := hT
    obtain ⟨v, vs', d, ds', p, q, rfl, rfl, rfl, hv, hr⟩ := trodAll_cons h
    have lt : ∀ x ∈ p, x.block < w.heap.size := by obtain ⟨m, hm⟩ := hv; exact DataW.trod_lt m _ _ _ hm
    exact ⟨p, q, Below.trod hl h2 h3 hv hb lt, trodAll_below hl hb h4 hr, rfl⟩

theorem trodAll_length : ∀ {ts : List TypeId} {vs : List Value} {ds : List (DataW H)} {ps : List MemPlace}, DataW.TrodAll enc P w 0 (fun _ => true) true ts vs ds ps → ds.length = ts.length ∧ vs.length = ts.length
  | [], vs, ds, ps, h => by obtain ⟨rfl, rfl, _⟩ := trodAll_nil h; exact ⟨rfl, rfl⟩
  | t :: ts, vs, ds, ps, h => by
    obtain ⟨v, vs', d, ds', p, q, rfl, rfl, rfl, _, hr⟩ := trodAll_cons h
    have := trodAll_length hr
    simp [this]
end

/-- A law that answers true and writes nothing that was there: its row's step. -/
theorem lift_law {C : Checked} {os : Os} {f : FuncId} {fn : Func} {s : ChangeSpec} {H : Type} {enc : TypeId × Value → H} {conds : List PathCond} {tb : TypeId} (ts : Array TypeId)
    (own : ownKnob C.prog.godebug = none) (laid : laidOutB C.prog = true) (started : os.Started) (noInit : C.prog.inits.idxOf? f = none) (hfn : C.prog.funcs[f]? = some fn)
    (witness : ∃ (w : World) (tape : Tape) (i : Input), w.os = os ∧ (w.forCall tape i).Shaped C.prog ∧ i.vars = [] ∧ Input.okWide C.prog (w.forCall tape i) .any w.heap.size f i ∧
      s.pre6 enc C.prog fn conds false (w.forCall tape i).memory i.args ∧ ({} : Assume).holds C.prog (lone (Frame.enter C.prog f i.args .normal) [] (w.forCall tape i)))
    (hts : fn.params = ts) (hrow : rowed C.prog ts.toList = true) (hvars : s.vars = []) (hres : fn.resultTypes = #[tb]) (hb : C.prog.underlying tb = some .bool)
    (hs : ∀ ds : List (DataW H), ds.length = ts.toList.length → s.fn H ds = { results := [.lit (.bool true)], args := ds })
    (walk : ∀ (W : World) (args : Array Value), Vals C.prog W ts.toList args.toList → Calls C.prog f args W fun e W' => e = .returned (.bool true) ∧ Below W.heap.size W W') :
    ReturnsInHanded {} C os f .any (s.pre6 enc C.prog fn conds false) (s.post enc C.prog fn false true false false) := by
  refine returnsInHanded_of_change_sized own started noInit hfn witness ?_
  intro W base args ds gs before hval hW _ hsz _
  subst hts
  have hW' := hW
  obtain ⟨p, q, hA, hV, rfl, _, _⟩ := hW
  rw [hvars] at hV
  obtain ⟨rfl, rfl⟩ := trodVars_none hV
  have hvt : s.plain.varTypes C.prog = [] := by simp [DataSpec.varTypes, ChangeSpec.plain, hvars]
  rw [hvt, List.append_nil, List.append_nil] at hsz
  have hv := vals_of_trodAll (fun j t v hj hj' => hval j t v (by simpa using hj) (by simpa using hj')) hA (fun n hn => by simpa using List.all_eq_true.1 hsz n hn)
  refine (walk W args hv).mono fun e W' ⟨he, bel⟩ => ?_
  subst he
  have hfn' : s.fn H (ds ++ []) = { results := [.lit (.bool true)], args := ds } := by
    rw [List.append_nil]
    exact hs ds (trodAll_length hA).1
  refine ⟨_, rfl, ds, [], p ++ [], [], p, [], hW', ?_, ?_, ?_, bel.frame _, fun h => by cases h⟩
  · rw [hfn', hres]
    exact trodAll_mk1 (shut_bool hb true)
  · rw [hfn']
    exact trodAll_below laid bel hrow hA
  · rw [hfn', hvars]
    rfl
end Go.Proofs.Ytgidkjfakecniaa
