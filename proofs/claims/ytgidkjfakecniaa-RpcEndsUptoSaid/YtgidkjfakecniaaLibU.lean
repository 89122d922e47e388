/-
  The second form ('..Upto'): a law's last step, the walk knowing that the arguments are small.
-/
import Derived.Test.YtgidkjfakecniaaLibA
import Derived.Test.YtgidkjfakecniaaRows
import Derived.JoinedCond
import Derived.Deep.CondSized
namespace Go.Proofs.Ytgidkjfakecniaa
open Go.ChangeShapes Go.WideShapes Go.ChangeAt Go.RowKit

theorem bulk_one {H : Type} (d : DataW H) : 1 ≤ Rows.uptoBulk d := by
  cases d with
  | lit l => cases l <;> simp [Rows.uptoBulk]
  | nil => simp [Rows.uptoBulk]
  | ptr d => simp [Rows.uptoBulk]
  | slice elems spare => simp [Rows.uptoBulk]
  | agg parts => simp [Rows.uptoBulk]
  | iface t d => simp [Rows.uptoBulk]
  | map entries => simp [Rows.uptoBulk]
  | held h => simp [Rows.uptoBulk]
theorem bulk_length {H : Type} (l : List (DataW H)) : l.length ≤ Rows.uptoBulkAll l := by
  induction l with
  | nil => simp [Rows.uptoBulkAll]
  | cons x r ih => have := bulk_one x; simp only [Rows.uptoBulkAll, List.length_cons]; omega

section
variable {P : Program} {w : World} {H : Type} {enc : TypeId × Value → H}
/-- What the bound says of one argument. -/
def Small (P : Program) (t : TypeId) (v : Value) : Prop :=
  (∀ u, P.underlying t = some (.slice u) → ∀ A n c, v = .slice A n c → c ≤ 1048576) ∧ (P.underlying t = some .string → ∀ s, v = .string s → s.size ≤ 1048576)
def Smalls (P : Program) : List TypeId → List Value → Prop
  | t :: ts, v :: vs => Small P t v ∧ Smalls P ts vs
  | _, _ => True
theorem small_of_trod {t : TypeId} {v : Value} {d : DataW H} {ps : List MemPlace}
    (h : DataW.Trod enc P w 0 (fun _ => true) true t v d ps) (hz : Rows.uptoBulk d ≤ 1048576) : Small P t v := by
  obtain ⟨fuel, h⟩ := h
  refine ⟨fun u hk A n c e => ?_, fun hk s e => ?_⟩
  · subst e
    rcases DataW.trod_slice hk h with ⟨h1, _⟩ | ⟨a, len, cap, elems, rest, m, hf, h1, h2, _, hl, hm, hlen, hel, hsp, _⟩
    · simp [Value.cells] at h1
      omega
    · simp [Value.cells] at h1
      obtain ⟨rfl, rfl, rfl⟩ := h1
      injection h2 with h2 _
      subst h2
      have hr1 := (hsp rfl).1
      have k1 := bulk_length (elems.map (·.1))
      have k2 := bulk_length (rest.map (·.1))
      simp only [Rows.uptoBulk] at hz
      simp only [List.length_map] at k1 k2
      omega
  · subst e
    obtain ⟨s', h1, h2, _⟩ := DataW.trod_string hk h
    simp [Value.cells] at h1
    subst h1
    injection h2 with h2 _
    subst h2
    simp [Rows.uptoBulk] at hz
    omega
theorem smalls_of_trodAll : ∀ {ts : List TypeId} {vs : List Value} {ds : List (DataW H)} {ps : List MemPlace},
    DataW.TrodAll enc P w 0 (fun _ => true) true ts vs ds ps → Rows.uptoBulkAll ds ≤ 1048576 → Smalls P ts vs
  | [], vs, ds, ps, h, _ => by
    obtain ⟨rfl, _⟩ := trodAll_nil h
    exact trivial
  | t :: ts, vs, ds, ps, h, hz => by
    obtain ⟨v, vs', d, ds', p, q, rfl, rfl, rfl, hv, hr⟩ := trodAll_cons h
    simp only [Rows.uptoBulkAll] at hz
    exact ⟨small_of_trod hv (by omega), smalls_of_trodAll hr (by omega)⟩
end

/-- A law that answers true and writes nothing that was there: its row's step, in the second form. -/
theorem lift_upto {C : Checked} {os : Os} {f : FuncId} {fn : Func} {s : ChangeSpec} {H : Type} {enc : TypeId × Value → H} {conds : List PathCond} {tb : TypeId} {F : Stop.Interp} (ts : Array TypeId)
    (own : ownKnob C.prog.godebug = none) (laid : laidOutB C.prog = true) (started : os.Started) (noInit : C.prog.inits.idxOf? f = none) (hfn : C.prog.funcs[f]? = some fn)
    (witness : ∃ (w : World) (tape : Tape) (i : Input), w.os = os ∧ (w.forCall tape i).Shaped C.prog ∧ i.vars = [] ∧ Input.okWide C.prog (w.forCall tape i) .any w.heap.size f i ∧
      (Rows.OpenSpec.upto s).pre6 enc C.prog fn conds false (w.forCall tape i).memory i.args ∧ ({} : Assume).holds C.prog (lone (Frame.enter C.prog f i.args .normal) [] (w.forCall tape i)))
    (hts : fn.params = ts) (hrow : rowed C.prog ts.toList = true) (hvars : s.vars = []) (hres : fn.resultTypes = #[tb]) (hb : C.prog.underlying tb = some .bool)
    (hs : ∀ ds : List (DataW H), ds.length = ts.toList.length → s.fn H ds = { results := [.lit (.bool true)], args := ds })
    (walk : ∀ (W : World) (args : Array Value), Vals C.prog W ts.toList args.toList → Smalls C.prog ts.toList args.toList → Calls C.prog f args W fun e W' => e = .returned (.bool true) ∧ Below W.heap.size W W') :
    ReturnsInHanded {} C os f .any ((Rows.OpenSpec.upto s).pre6 enc C.prog fn conds false) (((Rows.OpenSpec.upto s).at F).post enc C.prog fn false true false false) := by
  refine returnsInHanded_of_cond_sized (s := Rows.OpenSpec.upto s) (k := Rows.uptoSmall) rfl own started noInit hfn witness ?_
  intro W base args ds gs before hval hW _ hk hsz _
  subst hts
  have hW' : DataW.Whole enc C.prog fn.params.toList s.vars false W args.toList ds gs before := hW
  have hW2 := hW'
  obtain ⟨p, q, hA, hV, rfl, _, _⟩ := hW2
  rw [hvars] at hV
  obtain ⟨rfl, rfl⟩ := trodVars_none hV
  have hvt : s.plain.varTypes C.prog = [] := by simp [DataSpec.varTypes, ChangeSpec.plain, hvars]
  have hvt2 : (Rows.OpenSpec.upto s).bare.plain.varTypes C.prog = [] := hvt
  rw [hvt2, List.append_nil, List.append_nil] at hsz
  have hbulk : Rows.uptoBulkAll ds ≤ 1048576 := by
    have h1 := of_decide_eq_true hk
    rwa [List.append_nil] at h1
  have hv := vals_of_trodAll (fun j t v hj hj' => hval j t v (by simpa using hj) (by simpa using hj')) hA (fun n hn => by simpa using List.all_eq_true.1 hsz n hn)
  refine (walk W args hv (smalls_of_trodAll hA hbulk)).mono fun e W' ⟨he, bel⟩ => ?_
  subst he
  have hfn' : s.fn H (ds ++ []) = { results := [.lit (.bool true)], args := ds } := by
    rw [List.append_nil]
    exact hs ds (trodAll_length hA).1
  have key : s.post enc C.prog fn false true false false W args (.bool true) W' := by
    refine ⟨ds, [], p ++ [], [], p, [], hW', ?_, ?_, ?_, bel.frame _, fun h => by cases h⟩
    · rw [hfn', hres]
      exact trodAll_mk1 (shut_bool hb true)
    · rw [hfn']
      exact trodAll_below laid bel hrow hA
    · rw [hfn', hvars]
      rfl
  exact ⟨_, rfl, key⟩
end Go.Proofs.Ytgidkjfakecniaa
