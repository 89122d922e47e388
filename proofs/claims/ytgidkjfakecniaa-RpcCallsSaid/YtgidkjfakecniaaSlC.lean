/-
  The operations, each as a rule over slots and pieces.
-/
import Derived.Test.YtgidkjfakecniaaSlB
namespace Go.Proofs.Ytgidkjfakecniaa
open Go.RowKit

section
variable {Γ : Ctx} {N : Nat} {P : Program} {E : Env} {H : List Chunk} {κ : Cont} {ops : Array Oper} {rest : List Oper} {o : Oper} {x y z : Operand}

theorem Ev.of {v : Value} (h : ∀ (ρ : Operand → Value), (∀ x u, E.ev x = some u → ρ x = u) → ∀ w, (execOp ρ o).run P w = .ok (.value v) w) : Ev Γ N P E H o v := ⟨fun a w hr _ => h a.eval (fun _ _ h => hr.ev h) w⟩

theorem Ev.move {v : Value} (ho : o.op = .move x) (hx : E.ev x = some v) : Ev Γ N P E H o v := .of fun ρ hρ w => by simp [execOp, ho, hρ x v hx]
theorem Ev.assign {v : Value} (ho : o.op = .assign x) (hx : E.ev x = some v) : Ev Γ N P E H o v := .of fun ρ hρ w => by simp [execOp, ho, hρ x v hx]
theorem Ev.pick {c : Bool} {v u : Value} (ho : o.op = .pick x y z) (hx : E.ev x = some (.bool c)) (hy : c = true → E.ev y = some v) (hz : c = false → E.ev z = some v) (hu : u = v) : Ev Γ N P E H o u := .of fun ρ hρ w => by
  subst hu
  cases c
  · simp [execOp, ho, hρ x _ hx, asBool, hρ z _ (hz rfl)]
  · simp [execOp, ho, hρ x _ hx, asBool, hρ y _ (hy rfl)]
theorem Ev.nilCheck {ad : Addr} (ho : o.op = .nilCheck x) (hx : E.ev x = some (.pointer (some ad))) : Ev Γ N P E H o (.pointer (some ad)) := .of fun ρ hρ w => by simp [execOp, ho, hρ x _ hx]

/-! ### Numbers -/
theorem Ev.bin {op : BinOp} {t t' : TypeId} {u v r : Value} (ho : o.op = .binOp op t x y t') (hx : E.ev x = some u) (hy : E.ev y = some v) (hg : ∀ w, (eqGuard op t x y u v).run P w = .ok () w) (hb : ∀ w, (binOp op t u v).run P w = .ok r w) : Ev Γ N P E H o r := .of fun ρ hρ w => by
  simp only [execOp, ho, hρ x _ hx, hρ y _ hy, Sem.run_bind, hg, hb, Result.andThen_ok, Sem.run_pure]
theorem Ev.add {t t' : TypeId} {k : IntKind} {a b : Int} (ho : o.op = .binOp .add t x y t') (hx : E.ev x = some (.int k a)) (hy : E.ev y = some (.int k b)) : Ev Γ N P E H o (.int k (k.wrap (a + b))) :=
  .bin ho hx hy (fun _ => rfl) (fun _ => by rw [binOp_add]; rfl)
theorem Ev.addI {t t' : TypeId} {a b : Int} (ho : o.op = .binOp .add t x y t') (hx : E.ev x = some (.int .i64 a)) (hy : E.ev y = some (.int .i64 b)) (h : -9223372036854775808 ≤ a + b ∧ a + b ≤ 9223372036854775807) : Ev Γ N P E H o (.int .i64 (a + b)) := by
  have := Ev.add (Γ := Γ) (N := N) (P := P) (H := H) ho hx hy
  rwa [IntWalk.i64_in _ h] at this
theorem Ev.sub {t t' : TypeId} {k : IntKind} {a b : Int} (ho : o.op = .binOp .sub t x y t') (hx : E.ev x = some (.int k a)) (hy : E.ev y = some (.int k b)) : Ev Γ N P E H o (.int k (k.wrap (a - b))) :=
  .bin ho hx hy (fun _ => rfl) (fun _ => by rw [binOp_sub]; rfl)
theorem Ev.subI {t t' : TypeId} {a b : Int} (ho : o.op = .binOp .sub t x y t') (hx : E.ev x = some (.int .i64 a)) (hy : E.ev y = some (.int .i64 b)) (h : -9223372036854775808 ≤ a - b ∧ a - b ≤ 9223372036854775807) : Ev Γ N P E H o (.int .i64 (a - b)) := by
  have := Ev.sub (Γ := Γ) (N := N) (P := P) (H := H) ho hx hy
  rwa [IntWalk.i64_in _ h] at this
theorem Ev.mul {t t' : TypeId} {k : IntKind} {a b : Int} (ho : o.op = .binOp .mul t x y t') (hx : E.ev x = some (.int k a)) (hy : E.ev y = some (.int k b)) : Ev Γ N P E H o (.int k (k.wrap (a * b))) :=
  .bin ho hx hy (fun _ => rfl) (fun _ => by rw [binOp_mul]; rfl)
theorem Ev.mulI {t t' : TypeId} {a b : Int} (ho : o.op = .binOp .mul t x y t') (hx : E.ev x = some (.int .i64 a)) (hy : E.ev y = some (.int .i64 b)) (h : -9223372036854775808 ≤ a * b ∧ a * b ≤ 9223372036854775807) : Ev Γ N P E H o (.int .i64 (a * b)) := by
  have := Ev.mul (Γ := Γ) (N := N) (P := P) (H := H) ho hx hy
  rwa [IntWalk.i64_in _ h] at this
theorem Ev.quo {t t' : TypeId} {k : IntKind} {a b : Int} (ho : o.op = .binOp .quo t x y t') (hx : E.ev x = some (.int k a)) (hy : E.ev y = some (.int k b)) (h : b ≠ 0) : Ev Γ N P E H o (.int k (k.wrap (a.tdiv b))) :=
  .bin ho hx hy (fun _ => rfl) (fun _ => by rw [binOp_quo]; simp [Op.intDiv, h])
theorem Ev.rem {t t' : TypeId} {k : IntKind} {a b : Int} (ho : o.op = .binOp .rem t x y t') (hx : E.ev x = some (.int k a)) (hy : E.ev y = some (.int k b)) (h : b ≠ 0) : Ev Γ N P E H o (.int k (a.tmod b)) :=
  .bin ho hx hy (fun _ => rfl) (fun _ => by rw [binOp_rem]; simp [Op.intDiv, h])
/-- Quotient and rest of whole numbers that aren't below 0. -/
theorem Ev.quoI {t t' : TypeId} {a b : Int} (ho : o.op = .binOp .quo t x y t') (hx : E.ev x = some (.int .i64 a)) (hy : E.ev y = some (.int .i64 b)) (h : 0 ≤ a ∧ 0 < b ∧ a ≤ 9223372036854775807) : Ev Γ N P E H o (.int .i64 (a / b)) := by
  have := Ev.quo (Γ := Γ) (N := N) (P := P) (H := H) ho hx hy (by omega)
  rw [Int.tdiv_eq_ediv_of_nonneg h.1, IntWalk.i64_in _ ⟨?_, ?_⟩] at this
  · exact this
  · have := Int.ediv_nonneg h.1 (show 0 ≤ b by omega); omega
  · have := Int.ediv_le_self b h.1; omega
theorem Ev.remI {t t' : TypeId} {k : IntKind} {a b : Int} (ho : o.op = .binOp .rem t x y t') (hx : E.ev x = some (.int k a)) (hy : E.ev y = some (.int k b)) (h : 0 ≤ a ∧ 0 < b) : Ev Γ N P E H o (.int k (a % b)) := by
  have := Ev.rem (Γ := Γ) (N := N) (P := P) (H := H) ho hx hy (by omega)
  rwa [Int.tmod_eq_emod_of_nonneg h.1] at this
theorem Ev.shl {t t' : TypeId} {k k' : IntKind} {a b : Int} (ho : o.op = .binOp .shl t x y t') (hx : E.ev x = some (.int k a)) (hy : E.ev y = some (.int k' b)) (h : 0 ≤ b) : Ev Γ N P E H o (.int k (k.wrap (a * 2 ^ (min b.toNat k.bits)))) :=
  .bin ho hx hy (fun _ => rfl) (fun _ => by rw [binOp_shl]; simp [Op.shift, show ¬ b < 0 by omega])
theorem Ev.shr {t t' : TypeId} {k k' : IntKind} {a b : Int} (ho : o.op = .binOp .shr t x y t') (hx : E.ev x = some (.int k a)) (hy : E.ev y = some (.int k' b)) (h : 0 ≤ b) : Ev Γ N P E H o (.int k (a.fdiv (2 ^ (min b.toNat k.bits)))) :=
  .bin ho hx hy (fun _ => rfl) (fun _ => by rw [binOp_shr]; simp [Op.shift, show ¬ b < 0 by omega])
theorem Ev.lss {t t' : TypeId} {k : IntKind} {a b : Int} (ho : o.op = .binOp .lss t x y t') (hx : E.ev x = some (.int k a)) (hy : E.ev y = some (.int k b)) : Ev Γ N P E H o (.bool (decide (a < b))) :=
  .bin ho hx hy (fun _ => rfl) (fun _ => by rw [binOp_lss]; rfl)
theorem Ev.leq {t t' : TypeId} {k : IntKind} {a b : Int} (ho : o.op = .binOp .leq t x y t') (hx : E.ev x = some (.int k a)) (hy : E.ev y = some (.int k b)) : Ev Γ N P E H o (.bool (decide (a ≤ b))) :=
  .bin ho hx hy (fun _ => rfl) (fun _ => by rw [binOp_leq]; rfl)
theorem Ev.gtr {t t' : TypeId} {k : IntKind} {a b : Int} (ho : o.op = .binOp .gtr t x y t') (hx : E.ev x = some (.int k a)) (hy : E.ev y = some (.int k b)) : Ev Γ N P E H o (.bool (decide (b < a))) :=
  .bin ho hx hy (fun _ => rfl) (fun _ => by rw [binOp_gtr]; rfl)
theorem Ev.geq {t t' : TypeId} {k : IntKind} {a b : Int} (ho : o.op = .binOp .geq t x y t') (hx : E.ev x = some (.int k a)) (hy : E.ev y = some (.int k b)) : Ev Γ N P E H o (.bool (decide (b ≤ a))) :=
  .bin ho hx hy (fun _ => rfl) (fun _ => by rw [binOp_geq]; rfl)
theorem Ev.eql {t t' : TypeId} {k : IntKind} {a b : Int} (ho : o.op = .binOp .eql t x y t') (hx : E.ev x = some (.int k a)) (hy : E.ev y = some (.int k b)) : Ev Γ N P E H o (.bool (decide (a = b))) :=
  .bin ho hx hy (fun _ => rfl) (fun _ => by rw [binOp_eql]; rfl)
theorem Ev.neq {t t' : TypeId} {k : IntKind} {a b : Int} (ho : o.op = .binOp .neq t x y t') (hx : E.ev x = some (.int k a)) (hy : E.ev y = some (.int k b)) : Ev Γ N P E H o (.bool (decide (a ≠ b))) :=
  .bin ho hx hy (fun _ => rfl) (fun _ => by
    rw [binOp_neq]
    have : (a != b) = decide (a ≠ b) := by by_cases h : a = b <;> simp [h]
    rw [this]; rfl)
theorem Ev.eqlG {t t' : TypeId} {u v : Value} {r : Bool} (ho : o.op = .binOp .eql t x y t') (hx : E.ev x = some u) (hy : E.ev y = some v) (hg : ∀ w, (eqGuard .eql t x y u v).run P w = .ok () w) (hb : ∀ w, (binOp .eql t u v).run P w = .ok (.bool r) w) : Ev Γ N P E H o (.bool r) :=
  .bin ho hx hy hg hb
theorem Ev.neqG {t t' : TypeId} {u v : Value} {r : Bool} (ho : o.op = .binOp .neq t x y t') (hx : E.ev x = some u) (hy : E.ev y = some v) (hg : ∀ w, (eqGuard .neq t x y u v).run P w = .ok () w) (hb : ∀ w, (binOp .neq t u v).run P w = .ok (.bool r) w) : Ev Γ N P E H o (.bool r) :=
  .bin ho hx hy hg hb
theorem run_eqB {t : TypeId} (ht : P.underlying t = some .bool) (a b : Bool) (w : World) : (Op.equal t (.bool a) (.bool b)).run P w = .ok (a == b) w := by
  show (Op.equalIn (9999 + 1) t (.bool a) (.bool b)).run P w = _
  unfold Op.equalIn
  simp [run_underlying ht]
theorem Ev.eqlB {t t' : TypeId} {a b : Bool} (ho : o.op = .binOp .eql t x y t') (hx : E.ev x = some (.bool a)) (hy : E.ev y = some (.bool b)) (ht : P.underlying t = some .bool) : Ev Γ N P E H o (.bool (a == b)) :=
  .bin ho hx hy (fun _ => rfl) (fun w => by simp [binOp, run_eqB ht])
theorem Ev.neqB {t t' : TypeId} {a b : Bool} (ho : o.op = .binOp .neq t x y t') (hx : E.ev x = some (.bool a)) (hy : E.ev y = some (.bool b)) (ht : P.underlying t = some .bool) : Ev Γ N P E H o (.bool (!(a == b))) :=
  .bin ho hx hy (fun _ => rfl) (fun w => by simp [binOp, run_eqB ht])
/-! ### Texts -/
theorem bytes_beq (a b : ByteArray) : (a.toList == b.toList) = decide (a = b) := by
  by_cases h : a = b
  · subst h; simp
  · have : a.toList ≠ b.toList := fun e => h (Go.WideShapes.bytes_inj (by rwa [ByteArray.toList_eq, ByteArray.toList_eq] at e))
    simp [h, this]
theorem Ev.eqlS {t t' : TypeId} {a b : ByteArray} (ho : o.op = .binOp .eql t x y t') (hx : E.ev x = some (.string a)) (hy : E.ev y = some (.string b)) : Ev Γ N P E H o (.bool (decide (a = b))) :=
  .bin ho hx hy (fun _ => rfl) (fun _ => by rw [← bytes_beq]; rfl)
theorem Ev.neqS {t t' : TypeId} {a b : ByteArray} (ho : o.op = .binOp .neq t x y t') (hx : E.ev x = some (.string a)) (hy : E.ev y = some (.string b)) : Ev Γ N P E H o (.bool (decide (a ≠ b))) :=
  .bin ho hx hy (fun _ => rfl) (fun _ => by
    have : decide (a ≠ b) = !(a.toList == b.toList) := by rw [bytes_beq]; by_cases h : a = b <;> simp [h]
    rw [this]; rfl)
theorem Ev.lssS {t t' : TypeId} {a b : ByteArray} (ho : o.op = .binOp .lss t x y t') (hx : E.ev x = some (.string a)) (hy : E.ev y = some (.string b)) : Ev Γ N P E H o (.bool (Op.bytesLess a.toList b.toList)) :=
  .bin ho hx hy (fun _ => rfl) (fun _ => rfl)
theorem Ev.leqS {t t' : TypeId} {a b : ByteArray} (ho : o.op = .binOp .leq t x y t') (hx : E.ev x = some (.string a)) (hy : E.ev y = some (.string b)) : Ev Γ N P E H o (.bool (Op.bytesLess a.toList b.toList || (a.toList == b.toList))) :=
  .bin ho hx hy (fun _ => rfl) (fun _ => rfl)
theorem Ev.gtrS {t t' : TypeId} {a b : ByteArray} (ho : o.op = .binOp .gtr t x y t') (hx : E.ev x = some (.string a)) (hy : E.ev y = some (.string b)) : Ev Γ N P E H o (.bool (!(Op.bytesLess a.toList b.toList || (a.toList == b.toList)))) :=
  .bin ho hx hy (fun _ => rfl) (fun _ => rfl)
theorem Ev.geqS {t t' : TypeId} {a b : ByteArray} (ho : o.op = .binOp .geq t x y t') (hx : E.ev x = some (.string a)) (hy : E.ev y = some (.string b)) : Ev Γ N P E H o (.bool (!(Op.bytesLess a.toList b.toList))) :=
  .bin ho hx hy (fun _ => rfl) (fun _ => rfl)
theorem Ev.addS {t t' : TypeId} {a b : ByteArray} (ho : o.op = .binOp .add t x y t') (hx : E.ev x = some (.string a)) (hy : E.ev y = some (.string b)) (h : a.size + b.size ≤ 9223372036854775807) : Ev Γ N P E H o (.string (a ++ b)) :=
  .bin ho hx hy (fun _ => rfl) (fun w => by
    have h0 : ¬ (((a.size + b.size : Nat) : Int) > IntKind.i64.max) := by
      have : IntKind.i64.max = 9223372036854775807 := by decide
      omega
    show (Op.stringOp .add a b).run P w = _
    unfold Op.stringOp
    simp only [if_neg h0]
    rfl)
theorem Ev.not {t : TypeId} {b : Bool} (ho : o.op = .unOp .not t x) (hx : E.ev x = some (.bool b)) : Ev Γ N P E H o (.bool !b) := .of fun ρ hρ w => by simp [execOp, ho, hρ x _ hx, Op.unary]
theorem Ev.conv {s d : TypeId} {k k' : IntKind} {n : Int} (ho : o.op = .convert s d x) (hx : E.ev x = some (.int k n)) (hs : (P.underlying s).isSome = true) (hd : P.underlying d = some (.int k')) : Ev Γ N P E H o (.int k' (k'.wrap n)) := .of fun ρ hρ w => by
  have e : P.intKind d = k' := by simp [Program.intKind, hd]
  have := run_convert_int (P := P) w s d k n hs (by rw [e]; exact hd)
  rw [e] at this
  simp [execOp, ho, hρ x _ hx, this]
theorem Ev.convI {s d : TypeId} {k : IntKind} {n : Int} (ho : o.op = .convert s d x) (hx : E.ev x = some (.int k n)) (hs : (P.underlying s).isSome = true) (hd : P.underlying d = some (.int .i64)) (h : -9223372036854775808 ≤ n ∧ n ≤ 9223372036854775807) : Ev Γ N P E H o (.int .i64 n) := by
  have := Ev.conv (Γ := Γ) (N := N) (H := H) ho hx hs hd
  rwa [IntWalk.i64_in _ h] at this
theorem Ev.len {t : TypeId} {A : Option Addr} {n c : Nat} {e : TypeId} (ho : o.op = .call { callee := .builtin .len, args := #[x], argTypes := #[t] }) (hx : E.ev x = some (.slice A n c)) (ht : P.underlying t = some (.slice e)) : Ev Γ N P E H o (.int .i64 n) := .of fun ρ hρ w => by
  have e' : P.elem t = e := by simp [Program.elem, ht]
  have := run_len_slice (P := P) w t o.type A n c (by rw [e']; exact ht)
  simp [execOp, ho, resolve, invoke, builtin, hρ x _ hx, this, goInt]
theorem Ev.lenS {t : TypeId} {s : ByteArray} (ho : o.op = .call { callee := .builtin .len, args := #[x], argTypes := #[t] }) (hx : E.ev x = some (.string s)) (ht : P.underlying t = some .string) : Ev Γ N P E H o (.int .i64 s.size) := .of fun ρ hρ w => by
  simp [execOp, ho, resolve, invoke, builtin, hρ x _ hx, Builtin.len_, run_underlying ht, goInt]
theorem Ev.min {ts : Array TypeId} {k : IntKind} {a b : Int} (ho : o.op = .call { callee := .builtin .min, args := #[x, y], argTypes := ts }) (hx : E.ev x = some (.int k a)) (hy : E.ev y = some (.int k b)) : Ev Γ N P E H o (.int k (if b < a then b else a)) := .of fun ρ hρ w => by
  simp [execOp, ho, resolve, invoke, builtin, hρ x _ hx, hρ y _ hy, Builtin.min_, Builtin.min2]
theorem Ev.max {ts : Array TypeId} {k : IntKind} {a b : Int} (ho : o.op = .call { callee := .builtin .max, args := #[x, y], argTypes := ts }) (hx : E.ev x = some (.int k a)) (hy : E.ev y = some (.int k b)) : Ev Γ N P E H o (.int k (if a < b then b else a)) := .of fun ρ hρ w => by
  simp [execOp, ho, resolve, invoke, builtin, hρ x _ hx, hρ y _ hy, Builtin.max_, Builtin.max2]

/-! ### Addresses -/
/-- Where a field lies in its struct, in cells. -/
def fieldOff (P : Program) (s f : Nat) : Option Nat :=
  match P.underlying s with
  | some (.struct fs) => match fs[f]? with
    | some fd => match P.info? fd.type with
      | some i => bif i.size == 0 then none else some fd.offset
      | none => none
    | none => none
  | _ => none
theorem run_fieldAt {s f k : Nat} {ad : Addr} (h : fieldOff P s f = some k) (w : World) : (Instr.fieldAt s (.pointer (some ad)) f).run P w = .ok (.pointer (some (ad.add k))) w := by
  unfold fieldOff at h
  split at h
  · rename_i fs hs
    split at h
    · rename_i fd hfd
      split at h
      · rename_i i hi
        by_cases hz : i.size = 0
        · simp [hz] at h
        · have hz' : (i.size == 0) = false := by simpa using hz
          rw [hz'] at h
          simp only [cond_false, Option.some.injEq] at h
          subst h
          simp [Instr.fieldAt, run_underlying hs, hfd, Instr.sureAddr, fieldPlace, sizeOf, typeInfo, hi, hz]
      · cases h
    · cases h
  · cases h
theorem add_at (g m k : Nat) : (⟨g, m, none⟩ : Addr).add k = ⟨g, m + k, none⟩ := by unfold Addr.add; split <;> simp_all
theorem Ev.fieldAddr {s f k m j g : Nat} (ho : o.op = .fieldAddr s x f) (hx : E.ev x = some (.pointer (some ⟨g, m, none⟩))) (hf : fieldOff P s f = some k) (hj : m + k = j) : Ev Γ N P E H o (.pointer (some ⟨g, j, none⟩)) := .of fun ρ hρ w => by
  simp [execOp, ho, hρ x _ hx, run_fieldAt hf, add_at, hj]
theorem Ev.fieldAddrA {s f k : Nat} {ad : Addr} (ho : o.op = .fieldAddr s x f) (hx : E.ev x = some (.pointer (some ad))) (hf : fieldOff P s f = some k) : Ev Γ N P E H o (.pointer (some (ad.add k))) := .of fun ρ hρ w => by
  simp [execOp, ho, hρ x _ hx, run_fieldAt hf]
theorem Ev.indexAddr {t e sz : Nat} {ad : Addr} {n c : Nat} {i : Int} {k : IntKind} (ho : o.op = .indexAddr t x y) (hx : E.ev x = some (.slice (some ad) n c)) (hy : E.ev y = some (.int k i)) (ht : P.underlying t = some (.slice e)) (he : (P.info? e).map (·.size) = some sz) (hi : 0 ≤ i ∧ i < n) : Ev Γ N P E H o (.pointer (some (ad.add (i.toNat * sz)))) := .of fun ρ hρ w => by
  obtain ⟨ie, hie, hsz⟩ := Option.map_eq_some_iff.1 he
  have e' : P.elem t = e := by simp [Program.elem, ht]
  have := run_indexAt_slice (P := P) w t ad n c k i (by rw [e']; exact ht)
  rw [if_pos hi, e'] at this
  simp [execOp, ho, hρ x _ hx, hρ y _ hy, this, sizeOf, typeInfo, hie, hsz]

/-! ### Reading -/
def one (P : Program) (t : TypeId) : Bool := match P.underlying t with | some (.struct _) | some (.array _ _) | none => false | _ => true
theorem run_loadVar_one {t : TypeId} (ht : one P t = true) {ad : Addr} {w : World} {v : Value} (hv : w.cell? ad = some v) : (loadVar t ad).run P w = .ok v w := by
  unfold one at ht
  have hagg : (isAgg t).run P w = .ok false w := by
    unfold isAgg
    cases hu : P.underlying t with
    | none => simp [hu] at ht
    | some d => cases d <;> simp_all [run_underlying hu]
  simp [loadVar, hagg, hv]
def agg (P : Program) (t : TypeId) (n : Nat) : Bool := (match P.underlying t with | some (.struct _) | some (.array _ _) => true | _ => false) && (P.info? t).map (·.size) == some n
theorem run_loadVar_agg {t n : Nat} (ht : agg P t n = true) {ad : Addr} {w : World} {vs : List Value} (hl : vs.length = n) (hv : ∀ j v, vs[j]? = some v → w.cell? (ad.add j) = some v) : (loadVar t ad).run P w = .ok (.agg vs.toArray) w := by
  simp only [agg, Bool.and_eq_true, beq_iff_eq] at ht
  obtain ⟨h1, h2⟩ := ht
  have hagg : (isAgg t).run P w = .ok true w := by
    unfold isAgg
    cases hu : P.underlying t with
    | none => simp [hu] at h1
    | some d => cases d <;> simp_all [run_underlying hu]
  obtain ⟨i, hi, hs⟩ := Option.map_eq_some_iff.1 h2
  have := run_loadCells_list (P := P) w ad vs hv
  simp [loadVar, hagg, sizeOf, typeInfo, hi, hs, ← hl, this]
theorem Ev.loadOf {t : TypeId} {ad : Addr} {v : Value} (ho : o.op = .load t x) (hx : E.ev x = some (.pointer (some ad))) (h : ∀ w, Sat Γ H w → (loadVar t ad).run P w = .ok v w) : Ev Γ N P E H o v := ⟨fun a w hr hs => by
  simp [execOp, ho, hr.ev hx, Instr.loadAt, Instr.sureAddr, h w hs]⟩
theorem blk_cell {w : World} {g t m : Nat} {cs : List Value} {v : Value} (h : (blk g t cs).holds w) (hv : cs[m]? = some v) : w.cell? ⟨g, m, none⟩ = some v := (Blk.cell h m).trans (by simpa using hv)
/-- A cell of a block. -/
theorem Ev.load {t g m u : Nat} {cs : List Value} {v : Value} (i : Nat) (ho : o.op = .load t x) (hx : E.ev x = some (.pointer (some ⟨g, m, none⟩))) (hi : H[i]? = some (blk g u cs)) (ht : one P t = true) (hv : cs[m]? = some v) : Ev Γ N P E H o v :=
  .loadOf ho hx fun _ hs => run_loadVar_one ht (blk_cell (hs.mem hi) hv)
def rangeOf (cs : List Value) (m n : Nat) : List Value := (cs.drop m).take n
/-- Some cells of a block. -/
theorem Ev.loads {t g m n u : Nat} {cs vs : List Value} (i : Nat) (ho : o.op = .load t x) (hx : E.ev x = some (.pointer (some ⟨g, m, none⟩))) (hi : H[i]? = some (blk g u cs)) (ht : agg P t n = true) (hv : rangeOf cs m n = vs) (hn : vs.length = n) : Ev Γ N P E H o (.agg vs.toArray) :=
  .loadOf ho hx fun w hs => run_loadVar_agg ht hn fun j v hj => by
    rw [add_at]
    refine blk_cell (hs.mem hi) ?_
    rw [← hv, rangeOf, List.getElem?_take] at hj
    split at hj
    · rwa [List.getElem?_drop] at hj
    · cases hj
/-- A cell of a slice that is read. -/
theorem rd_cell {w : World} {ad : Addr} {n sz j : Nat} {xs : List Value} {v : Value} (h : (rd (some ad) n sz xs).holds w) (hn : 0 < n) (hv : xs[j]? = some v) : w.cell? (ad.add j) = some v := by
  obtain ⟨ad', e, _, hc⟩ := h.2 hn
  injection e with e
  subst e
  exact hc j v hv
theorem Ev.loadR {t n sz j : Nat} {ad : Addr} {xs : List Value} {v : Value} (i : Nat) (ho : o.op = .load t x) (hx : E.ev x = some (.pointer (some (ad.add j)))) (hi : H[i]? = some (rd (some ad) n sz xs)) (ht : one P t = true) (hn : 0 < n) (hv : xs[j]? = some v) : Ev Γ N P E H o v :=
  .loadOf ho hx fun _ hs => run_loadVar_one ht (rd_cell (hs.mem hi) hn hv)
theorem Ev.loadsR {t n sz j m : Nat} {ad : Addr} {xs vs : List Value} (i : Nat) (ho : o.op = .load t x) (hx : E.ev x = some (.pointer (some (ad.add j)))) (hi : H[i]? = some (rd (some ad) n sz xs)) (ht : agg P t m = true) (hn : 0 < n) (hv : rangeOf xs j m = vs) (hl : vs.length = m) : Ev Γ N P E H o (.agg vs.toArray) :=
  .loadOf ho hx fun w hs => run_loadVar_agg ht hl fun k v hk => by
    rw [add_of_add]
    refine rd_cell (hs.mem hi) hn ?_
    rw [← hv, rangeOf, List.getElem?_take] at hk
    split at hk
    · rwa [List.getElem?_drop] at hk
    · cases hk

/-! ### Structs by value -/
theorem Ev.build {t : TypeId} {parts : Array (Nat × Operand)} {ps : List (Nat × Value)} {cs : Array Value} (ho : o.op = .build t parts) (hp : parts.toList.mapM (fun p => (E.ev p.2).map (p.1, ·)) = some ps) (hb : P.built t ps = some cs) : Ev Γ N P E H o (.agg cs) := .of fun ρ hρ w => by
  have key : ∀ (l : List (Nat × Operand)) (ps : List (Nat × Value)), l.mapM (fun p => (E.ev p.2).map (p.1, ·)) = some ps → l.map (fun p => (p.1, ρ p.2)) = ps := by
    intro l
    induction l with
    | nil => intro ps h; simpa using h
    | cons p l ih =>
      intro ps h
      rw [List.mapM_cons] at h
      simp only [Option.bind_eq_bind, Option.bind_eq_some_iff, Option.map_eq_some_iff, Option.pure_def, Option.some.injEq] at h
      obtain ⟨q, ⟨u, hu, rfl⟩, qs, hqs, rfl⟩ := h
      simp only [List.map_cons, ih qs hqs, hρ _ _ hu]
  have h1 := key _ _ hp
  have h2 : (parts.map fun (i, x) => (i, ρ x)).toList = ps := by rw [← h1]; simp
  simp [execOp, ho, run_build (P := P) w t _ cs (by rw [h2]; exact hb)]
theorem Ev.extract {k : Nat} {vs : Array Value} {v : Value} (ho : o.op = .extract x k) (hx : E.ev x = some (.tuple vs)) (hv : vs[k]? = some v) : Ev Γ N P E H o v := .of fun ρ hρ w => by
  simp [execOp, ho, hρ x _ hx, Instr.extract, hv]
theorem Ev.field {t f k : Nat} {cs : Array Value} {v : Value} {fs : Array Field} {fd : Field} (ho : o.op = .field t x f) (hx : E.ev x = some (.agg cs)) (ht : P.underlying t = some (.struct fs)) (hf : fs[f]? = some fd) (h1 : one P fd.type = true) (hk : fd.offset = k) (hv : cs[k]? = some v) : Ev Γ N P E H o v := .of fun ρ hρ w => by
  have hagg : (isAgg fd.type).run P w = .ok false w := by
    unfold isAgg
    unfold one at h1
    cases hu : P.underlying fd.type with
    | none => simp [hu] at h1
    | some d => cases d <;> simp_all [run_underlying hu]
  subst hk
  simp [execOp, ho, hρ x _ hx, Instr.field, run_underlying ht, hf, asAgg, part, hagg, hv]

/-! ### Memory -/
theorem Does.of {ι : Type} {v : ι → Value} {H' : ι → List Chunk} {φ : ι → Prop} (h : ∀ (ρ : Operand → Value), (∀ x u, E.ev x = some u → ρ x = u) → ∀ w, Sat Γ H w → ∃ i w', φ i ∧ Sat Γ (H' i) w' ∧ ((execOp ρ o).run P w = .ok (.value (v i)) w' ∨ (v i = undef ∧ (execOp ρ o).run P w = .ok .skip w'))) : Does Γ N P E H o ι v H' φ := by
  refine ⟨fun a w hr hs K Q hK => ?_⟩
  obtain ⟨i, w', hi, hs', hrun | ⟨hv, hrun⟩⟩ := h a.eval (fun _ _ h => hr.ev h) w hs
  · unfold Oper.wp
    rw [hrun]
    exact hK i w' hi hs'
  · unfold Oper.wp
    rw [hrun]
    have := hK i w' hi hs'
    rw [hv] at this
    exact this
theorem Does.box {t : TypeId} {v : Value} (ho : o.op = .box t x) (hx : E.ev x = some v) : Does Γ N P E H o Nat (fun g => .pointer (some ⟨g, 0, none⟩)) (fun g => blk g t v.cells.toList :: H) (fun _ => True) := .of fun ρ hρ w hs =>
  ⟨w.heap.size, w.alloc (.cells v.cells t), trivial, by simpa using hs.new t v.cells.toList, .inl (by simp [execOp, ho, hρ x _ hx, Instr.box, newVar, newRow])⟩
/-- A type's zero, in cells. -/
def ZeroIs (P : Program) (t : TypeId) (cs : List Value) : Prop := ∃ i z, P.info? t = some i ∧ i.zero = some z ∧ z.cells = cs.toArray
theorem ZeroIs.mk {t : TypeId} {cs : List Value} (z : Value) (hz : (P.info? t).bind (·.zero) = some z) (hc : z.cells = cs.toArray) : ZeroIs P t cs := by
  obtain ⟨i, hi, hz⟩ := Option.bind_eq_some_iff.1 hz
  exact ⟨i, z, hi, hz, hc⟩
theorem Does.alloc {t : TypeId} {cs : List Value} (ho : o.op = .alloc t) (hz : ZeroIs P t cs) : Does Γ N P E H o Nat (fun g => .pointer (some ⟨g, 0, none⟩)) (fun g => blk g t cs :: H) (fun _ => True) := .of fun ρ hρ w hs => by
  obtain ⟨i, z, hi, hz, hc⟩ := hz
  exact ⟨w.heap.size, w.alloc (.cells cs.toArray t), trivial, hs.new t cs, .inl (by simp [execOp, ho, Instr.alloc, zeroValue, typeInfo, hi, hz, hc, newVar, newRow])⟩

/-- The cells vs from m on. -/
def setR (cs : List Value) (m : Nat) (vs : List Value) : List Value := cs.take m ++ vs ++ cs.drop (m + vs.length)
theorem Does.store {t g m u : Nat} {cs cs' : List Value} {v : Value} (i : Nat) (ho : o.op = .store t x y) (hx : E.ev x = some (.pointer (some ⟨g, m, none⟩))) (hy : E.ev y = some v) (hi : H[i]? = some (blk g u cs)) (hsz : (P.info? t).map (·.size) = some v.cells.size) (h1 : v.cells.toList.all (·.oneCell') = true) (hm : decide (m + v.cells.size ≤ cs.length) = true) (hcs : setR cs m v.cells.toList = cs') : Does Γ N P E H o Unit (fun _ => undef) (fun _ => H.set i (blk g u cs')) (fun _ => True) := .of fun ρ hρ w hs => by
  have hb : Blk w g u cs.toArray := hs.mem hi
  have hm : m + v.cells.size ≤ cs.length := of_decide_eq_true hm
  have hst := run_storeCells_at P g m u v.cells.toList 0 cs.toArray w hb (by simpa using hm) (fun z hz => (List.all_eq_true.1 h1) z hz)
  simp only [Nat.add_zero] at hst
  obtain ⟨ti, hti, hsz⟩ := Option.map_eq_some_iff.1 hsz
  have hrun : (storeVar t ⟨g, m, none⟩ v).run P w = .ok () (w.setRow g (setR cs m v.cells.toList).toArray) := by
    simp only [storeVar, sizeOf, typeInfo, hti, hsz, Sem.run_bind, run_program, Result.andThen_ok, Sem.run_pure, ne_eq, not_true_eq_false, if_false, hst]
    rfl
  refine ⟨(), w.setRow g (setR cs m v.cells.toList).toArray, trivial, ?_, .inr ⟨rfl, ?_⟩⟩
  · refine hs.turn hi rfl ⟨rfl, rfl, rfl, by simp, fun k hk hn => setRow_other w g k _ (fun e => hn e)⟩ ?_ (fun k hk => .inl hk)
    subst hcs
    exact setRow_heap w g _ _ u (0, 0) hb
  · simp [execOp, ho, hρ x _ hx, hρ y _ hy, Instr.storeAt, Instr.sureAddr, hrun]

def Ready_ (E : Env) (parts : Array (Nat × Operand)) (ps : List (Nat × Value)) : Prop := parts.toList.mapM (fun p => (E.ev p.2).map (p.1, ·)) = some ps
theorem parts_ev {ρ : Operand → Value} (hρ : ∀ x u, E.ev x = some u → ρ x = u) : ∀ (l : List (Nat × Operand)) (ps : List (Nat × Value)), l.mapM (fun p => (E.ev p.2).map (p.1, ·)) = some ps → l.map (fun p => (p.1, ρ p.2)) = ps := by
  intro l
  induction l with
  | nil => intro ps h; simpa using h
  | cons p l ih =>
    intro ps h
    rw [List.mapM_cons] at h
    simp only [Option.bind_eq_bind, Option.bind_eq_some_iff, Option.map_eq_some_iff, Option.pure_def, Option.some.injEq] at h
    obtain ⟨q, ⟨u, hu, rfl⟩, qs, hqs, rfl⟩ := h
    simp only [List.map_cons, ih qs hqs, hρ _ _ hu]
theorem args_ev {ρ : Operand → Value} (hρ : ∀ x u, E.ev x = some u → ρ x = u) : ∀ (l : List Operand) (vs : List Value), l.mapM E.ev = some vs → l.map ρ = vs := by
  intro l
  induction l with
  | nil => intro ps h; simpa using h
  | cons p l ih =>
    intro ps h
    rw [List.mapM_cons] at h
    simp only [Option.bind_eq_bind, Option.bind_eq_some_iff, Option.pure_def, Option.some.injEq] at h
    obtain ⟨u, hu, qs, hqs, rfl⟩ := h
    simp only [List.map_cons, ih qs hqs, hρ _ _ hu]
/-- The cells that a literal slice has. -/
def builtS (P : Program) (t len : Nat) (ps : List (Nat × Value)) : Option (Nat × Nat × Array Value) :=
  match P.underlying t with
  | some (.slice e) => match P.info? e with
    | some ie => match ie.zero with
      | some z => bif decide (len * ie.size > 2 ^ 24) || decide (len * ie.size = 0) then none else
        match Instr.fill (fun i => some (i * ie.size, ie.size)) ((Array.range (len * ie.size)).map (z.cells[· % z.cells.size]!)) ps with
        | some cs => bif cs.size == len * ie.size then some (e, ie.size, cs) else none
        | none => none
      | none => none
    | none => none
  | _ => none
theorem Does.buildSlice {t e sz len : Nat} {parts : Array (Nat × Operand)} {ps : List (Nat × Value)} {cs : Array Value} (ho : o.op = .buildSlice t len parts) (hp : parts.toList.mapM (fun p => (E.ev p.2).map (p.1, ·)) = some ps) (hb : builtS P t len ps = some (e, sz, cs)) (hl : decide (len ≤ maxLen) = true) :
    Does Γ N P E H o Nat (fun g => .slice (some ⟨g, 0, none⟩) len len) (fun g => row (some ⟨g, 0, none⟩) len len e sz cs.toList :: H) (fun _ => True) := .of fun ρ hρ w hs => by
  unfold builtS at hb
  split at hb
  · rename_i e' hu
    split at hb
    · rename_i ie hie
      split at hb
      · rename_i z hz
        by_cases hsm : (decide (len * ie.size > 2 ^ 24) || decide (len * ie.size = 0)) = true
        · rw [hsm] at hb; simp at hb
        · have hsm : (decide (len * ie.size > 2 ^ 24) || decide (len * ie.size = 0)) = false := by simpa using hsm
          rw [hsm] at hb
          simp only [cond_false] at hb
          simp only [Bool.or_eq_false_iff, decide_eq_false_iff_not] at hsm
          split at hb
          · rename_i cs' hf
            by_cases hcs : cs'.size = len * ie.size
            · have hcs' : (cs'.size == len * ie.size) = true := by simpa using hcs
              rw [hcs'] at hb
              simp only [cond_true, Option.some.injEq, Prod.mk.injEq] at hb
              obtain ⟨rfl, rfl, rfl⟩ := hb
              have h2 : (parts.map fun (i, x) => (i, ρ x)).toList = ps := by rw [← parts_ev hρ _ _ hp]; simp
              refine ⟨w.heap.size, w.alloc (.cells cs' e'), trivial, ?_, .inl ?_⟩
              · have hn := hs.new e' cs'.toList
                have hrow : (row (some ⟨w.heap.size, 0, none⟩) len len e' ie.size cs'.toList).holds (w.alloc (.cells cs' e')) := (Own.built w e' hcs (of_decide_eq_true hl)).mono (Nat.zero_le _)
                have := hn.turn (i := 0) (C := blk w.heap.size e' cs'.toList) rfl rfl (Upd.refl _ _) (C' := row (some ⟨w.heap.size, 0, none⟩) len len e' ie.size cs'.toList) (by simpa using hrow) (fun k hk => .inl (by simpa [row, blockOf, blk] using hk.symm))
                simpa using this
              · simp [execOp, ho, run_buildSlice w t e' len _ cs' ie z hu hie hz hsm.1 hsm.2 (by rw [h2]; exact hf)]
            · have hcs' : (cs'.size == len * ie.size) = false := by simpa using hcs
              rw [hcs'] at hb; simp at hb
          · cases hb
      · cases hb
    · cases hb
  · cases hb

/-- What is read of a slice, whatever piece tells it. -/
def ReadsIn (Γ : Ctx) (H : List Chunk) (size : Nat) (A : Option Addr) (n : Nat) (xs : List Value) : Prop := ∀ w, Sat Γ H w → Reads w w.heap.size size A n xs
theorem ReadsIn.rd {A : Option Addr} {n sz : Nat} {xs : List Value} (i : Nat) (hi : H[i]? = some (rd A n sz xs)) : ReadsIn Γ H sz A n xs := fun _ hs => hs.mem hi
theorem ReadsIn.row {A : Option Addr} {n c e sz : Nat} {xs : List Value} (i : Nat) (hi : H[i]? = some (row A n c e sz xs)) : ReadsIn Γ H sz A n xs := fun _ hs => Own.reads (hs.mem hi)
theorem ReadsIn.nil_ {sz : Nat} {A : Option Addr} : ReadsIn Γ H sz A 0 [] := fun _ _ => ⟨by simp, fun h => absurd h (by omega)⟩
theorem Ent.nil {A : Asrt} (e sz : Nat) (h : Ent Γ N E (row none 0 0 e sz [] :: H) A) : Ent Γ N E H A := fun a w hr hs => h a w hr
  ⟨hs.upd, ⟨fun C hC => by
    rcases List.mem_cons.1 hC with rfl | hC
    · exact Own.nil_ w 0 e sz
    · exact hs.sat.1 C hC, List.Pairwise.cons (fun D _ _ k hk => by cases hk) hs.sat.2⟩, fun C hC => by
    rcases List.mem_cons.1 hC with rfl | hC
    · intro k hk; cases hk
    · exact hs.fits C hC⟩
theorem Does.app {t e sz bytes n c m d : Nat} {A D : Option Addr} {xs news : List Value} (i : Nat) (ho : o.op = .call { callee := .builtin .append, args := #[x, y], argTypes := #[t, t] }) (hx : E.ev x = some (.slice A n c)) (hy : E.ev y = some (.slice D m d))
    (hi : H[i]? = some (row A n c e sz xs)) (hr : ReadsIn Γ H sz D m news) (hel : Elem P t e sz bytes) (h1 : ∀ u ∈ news, u.oneCell' = true) (hbytes : (n + m) * bytes ≤ 140737488355328) :
    Does Γ N P E H o (Option Addr × Nat) (fun p => .slice p.1 (n + m) p.2) (fun p => H.set i (row p.1 (n + m) p.2 e sz (xs ++ news))) (fun _ => True) := .of fun ρ hρ w hs => by
  obtain ⟨A', c', w', hrun, hown, hupd, hat⟩ := run_app (P := P) (ty := o.type) (d := d) hel (hs.mem hi) (hr w hs) h1 hbytes (Nat.zero_le _)
  refine ⟨(A', c'), w', trivial, ?_, .inl ?_⟩
  · refine hs.turn hi rfl hupd hown fun k hk => ?_
    rcases hat with e | ⟨g, rfl, hg⟩
    · exact .inl (e.symm.trans hk)
    · right
      have : g = k := by simpa [row, blockOf] using hk
      omega
  · simp [execOp, ho, resolve, invoke, builtin, hρ x _ hx, hρ y _ hy, hrun]

theorem Does.call {f : FuncId} {fn : Func} {args : Array Operand} {ats : Array TypeId} {vs : List Value} {ι : Type} {res : ι → Value} {Hp R : List Chunk} {H' : ι → List Chunk} {φ : ι → Prop} (is : List Nat)
    (ho : o.op = .call { callee := .value (.func f), args := args, argTypes := ats }) (hf : P.funcs[f]? = some fn) (hname : (fn.name == "runtime.NumGoroutine") = false) (hb : fn.body.isNone = false)
    (hspec : Fn P f vs.toArray Hp ι res H' φ) (hargs : args.toList.mapM E.ev = some vs) (hsel : selB (H.map (·.excl)) is = true) (hsp : picks H is = Hp ++ R) :
    Does Γ N P E H o ι res (fun i => H' i ++ R) φ := by
  refine ⟨fun a w hr hs K Q hK => ?_⟩
  have h1 : ¬ fn.name = "runtime.NumGoroutine" := by simpa using hname
  have h2 : ¬ fn.body = none := by cases hx : fn.body <;> simp_all
  have ha : args.map a.eval = vs.toArray := by
    have := args_ev (fun _ _ h => hr.ev h) _ _ hargs
    rw [← this, ← Array.toList_map]
  have hrun : (execOp a.eval o).run P w = .ok (.enter f vs.toArray) w := by
    unfold execOp
    simp [ho, resolve, Deferred.ofValue, invoke, callFunc, hf, h1, h2, Act.eval, ha]
  unfold Oper.wp
  rw [hrun]
  have hs2 := hs.pick is hsel
  rw [hsp] at hs2
  refine (hspec w (sat0_append.1 hs2.sat).1).mono ?_
  rintro e w' ⟨i, hi, rfl, hs'⟩
  exact hK i w' hi (hs2.call hs')
end
end Go.Proofs.Ytgidkjfakecniaa
