/- arguments of rpc: messages and calls -/
import Derived.Test.YtgidkjfakecniaaSlV
import Derived.Test.YtgidkjfakecniaaProg
namespace Go.Proofs.Ytgidkjfakecniaa
open Go.RowKit
structure RouteA where
  start : Int
  cellsA : Option Addr
  cellsC : Nat
  cells : List Int
  deriving Inhabited
def RouteA.enc (x : RouteA) : List Value := [.int .i64 x.start, .slice x.cellsA x.cells.length x.cellsC]
theorem routea_len (x : RouteA) : x.enc.length = 2 := rfl
def RouteA.ok (W : World) (x : RouteA) : Prop := (-9223372036854775808 ≤ x.start ∧ x.start ≤ 9223372036854775807) ∧ (Reads W W.heap.size 1 x.cellsA x.cells.length (ints x.cells) ∧ (∀ y ∈ x.cells, -9223372036854775808 ≤ y ∧ y ≤ 9223372036854775807) ∧ x.cells.length ≤ 17592186044415)
theorem cel_routea {w : World} (n : Nat) (cs : List Value) (h : Cel Try.prog w n 25 cs) : ∃ x : RouteA, cs = x.enc ∧ x.ok w := by
  obtain ⟨hl, m, hf⟩ := cel_fields (k := 2) (rows := [(3, 0, 1), (23, 1, 1)]) Try.underlying25 (by kernel_rfl) (by kernel_rfl) h
  simp only [List.forall_mem_cons] at hf
  obtain ⟨h0, h1, _⟩ := hf
  obtain ⟨f0, e0, w0⟩ := cel_int Try.underlying3 h0
  obtain ⟨a1, c1, f1, e1, w1⟩ := cel_ints Try.underlying23 Try.underlying3 (by kernel_rfl) (by kernel_rfl) h1
  have t0 := seg_ (off' := 1) e0 rfl
  have t1 := seg_ (off' := 2) e1 rfl
  rw [List.drop_zero] at t0
  refine ⟨⟨f0, a1, c1, f1⟩, ?_, wf_bd w0, w1⟩
  rw [t0, t1, List.drop_of_length_le (by omega)]
  first | rfl | simp [RouteA.enc]
structure CallA where
  verb : Int
  epoch : Int
  route : RouteA
  deriving Inhabited
def CallA.enc (x : CallA) : List Value := [.int .i64 x.verb] ++ [.int .i64 x.epoch] ++ x.route.enc
theorem calla_len (x : CallA) : x.enc.length = 4 := rfl
def CallA.ok (W : World) (x : CallA) : Prop := (-9223372036854775808 ≤ x.verb ∧ x.verb ≤ 9223372036854775807) ∧ (-9223372036854775808 ≤ x.epoch ∧ x.epoch ≤ 9223372036854775807) ∧ x.route.ok W
theorem cel_calla {w : World} (n : Nat) (cs : List Value) (h : Cel Try.prog w n 27 cs) : ∃ x : CallA, cs = x.enc ∧ x.ok w := by
  obtain ⟨hl, m, hf⟩ := cel_fields (k := 4) (rows := [(22, 0, 1), (3, 1, 1), (25, 2, 2)]) Try.underlying27 (by kernel_rfl) (by kernel_rfl) h
  simp only [List.forall_mem_cons] at hf
  obtain ⟨h0, h1, h2, _⟩ := hf
  obtain ⟨f0, e0, w0⟩ := cel_int Try.underlying22 h0
  obtain ⟨f1, e1, w1⟩ := cel_int Try.underlying3 h1
  obtain ⟨f2, e2, w2⟩ := cel_routea _ _ h2
  have t0 := seg_ (off' := 1) e0 rfl
  have t1 := seg_ (off' := 2) e1 rfl
  have t2 := seg_ (off' := 4) e2 rfl
  rw [List.drop_zero] at t0
  refine ⟨⟨f0, f1, f2⟩, ?_, wf_bd w0, wf_bd w1, w2⟩
  rw [t0, t1, t2, List.drop_of_length_le (by omega)]
  first | rfl | simp [CallA.enc]
structure ReplyA where
  code : Int
  epoch : Int
  route : RouteA
  deriving Inhabited
def ReplyA.enc (x : ReplyA) : List Value := [.int .i64 x.code] ++ [.int .i64 x.epoch] ++ x.route.enc
theorem replya_len (x : ReplyA) : x.enc.length = 4 := rfl
def ReplyA.ok (W : World) (x : ReplyA) : Prop := (-9223372036854775808 ≤ x.code ∧ x.code ≤ 9223372036854775807) ∧ (-9223372036854775808 ≤ x.epoch ∧ x.epoch ≤ 9223372036854775807) ∧ x.route.ok W
theorem cel_replya {w : World} (n : Nat) (cs : List Value) (h : Cel Try.prog w n 39 cs) : ∃ x : ReplyA, cs = x.enc ∧ x.ok w := by
  obtain ⟨hl, m, hf⟩ := cel_fields (k := 4) (rows := [(37, 0, 1), (3, 1, 1), (25, 2, 2)]) Try.underlying39 (by kernel_rfl) (by kernel_rfl) h
  simp only [List.forall_mem_cons] at hf
  obtain ⟨h0, h1, h2, _⟩ := hf
  obtain ⟨f0, e0, w0⟩ := cel_int Try.underlying37 h0
  obtain ⟨f1, e1, w1⟩ := cel_int Try.underlying3 h1
  obtain ⟨f2, e2, w2⟩ := cel_routea _ _ h2
  have t0 := seg_ (off' := 1) e0 rfl
  have t1 := seg_ (off' := 2) e1 rfl
  have t2 := seg_ (off' := 4) e2 rfl
  rw [List.drop_zero] at t0
  refine ⟨⟨f0, f1, f2⟩, ?_, wf_bd w0, wf_bd w1, w2⟩
  rw [t0, t1, t2, List.drop_of_length_le (by omega)]
  first | rfl | simp [ReplyA.enc]
structure TxnA where
  node : Int
  life : Int
  count : Int
  deriving Inhabited
def TxnA.enc (x : TxnA) : List Value := [.int .i64 x.node, .int .i64 x.life, .int .i64 x.count]
theorem txna_len (x : TxnA) : x.enc.length = 3 := rfl
def TxnA.ok (_ : World) (x : TxnA) : Prop := (-9223372036854775808 ≤ x.node ∧ x.node ≤ 9223372036854775807) ∧ (-9223372036854775808 ≤ x.life ∧ x.life ≤ 9223372036854775807) ∧ (-9223372036854775808 ≤ x.count ∧ x.count ≤ 9223372036854775807)
theorem cel_txna {w : World} (n : Nat) (cs : List Value) (h : Cel Try.prog w n 33 cs) : ∃ x : TxnA, cs = x.enc ∧ x.ok w := by
  obtain ⟨hl, m, hf⟩ := cel_fields (k := 3) (rows := [(3, 0, 1), (3, 1, 1), (3, 2, 1)]) Try.underlying33 (by kernel_rfl) (by kernel_rfl) h
  simp only [List.forall_mem_cons] at hf
  obtain ⟨h0, h1, h2, _⟩ := hf
  obtain ⟨f0, e0, w0⟩ := cel_int Try.underlying3 h0
  obtain ⟨f1, e1, w1⟩ := cel_int Try.underlying3 h1
  obtain ⟨f2, e2, w2⟩ := cel_int Try.underlying3 h2
  have t0 := seg_ (off' := 1) e0 rfl
  have t1 := seg_ (off' := 2) e1 rfl
  have t2 := seg_ (off' := 3) e2 rfl
  rw [List.drop_zero] at t0
  refine ⟨⟨f0, f1, f2⟩, ?_, wf_bd w0, wf_bd w1, wf_bd w2⟩
  rw [t0, t1, t2, List.drop_of_length_le (by omega)]
  first | rfl | simp [TxnA.enc]
structure WorkA where
  robot : Int
  takeA : Option Addr
  takeC : Nat
  take : List ByteArray
  dropA : Option Addr
  dropC : Nat
  drop : List ByteArray
  deriving Inhabited
def WorkA.enc (x : WorkA) : List Value := [.int .i64 x.robot, .slice x.takeA x.take.length x.takeC, .slice x.dropA x.drop.length x.dropC]
theorem worka_len (x : WorkA) : x.enc.length = 3 := rfl
def WorkA.ok (W : World) (x : WorkA) : Prop := (-9223372036854775808 ≤ x.robot ∧ x.robot ≤ 9223372036854775807) ∧ (Reads W W.heap.size 1 x.takeA x.take.length (strs x.take) ∧ (∀ y ∈ x.take, ByteArray.size y ≤ reachBytes) ∧ x.take.length ≤ 8796093022207) ∧ (Reads W W.heap.size 1 x.dropA x.drop.length (strs x.drop) ∧ (∀ y ∈ x.drop, ByteArray.size y ≤ reachBytes) ∧ x.drop.length ≤ 8796093022207)
theorem cel_worka {w : World} (n : Nat) (cs : List Value) (h : Cel Try.prog w n 36 cs) : ∃ x : WorkA, cs = x.enc ∧ x.ok w := by
  obtain ⟨hl, m, hf⟩ := cel_fields (k := 3) (rows := [(3, 0, 1), (34, 1, 1), (34, 2, 1)]) Try.underlying36 (by kernel_rfl) (by kernel_rfl) h
  simp only [List.forall_mem_cons] at hf
  obtain ⟨h0, h1, h2, _⟩ := hf
  obtain ⟨f0, e0, w0⟩ := cel_int Try.underlying3 h0
  obtain ⟨a1, c1, f1, e1, w1⟩ := cel_strs Try.underlying34 Try.underlying9 (by kernel_rfl) (by kernel_rfl) h1
  obtain ⟨a2, c2, f2, e2, w2⟩ := cel_strs Try.underlying34 Try.underlying9 (by kernel_rfl) (by kernel_rfl) h2
  have t0 := seg_ (off' := 1) e0 rfl
  have t1 := seg_ (off' := 2) e1 rfl
  have t2 := seg_ (off' := 3) e2 rfl
  rw [List.drop_zero] at t0
  refine ⟨⟨f0, a1, c1, f1, a2, c2, f2⟩, ?_, wf_bd w0, w1, w2⟩
  rw [t0, t1, t2, List.drop_of_length_le (by omega)]
  first | rfl | simp [WorkA.enc]
structure MsgA where
  fr : Int
  to : Int
  kind : Int
  txn : TxnA
  work : WorkA
  yes : Bool
  iD : Int
  call : CallA
  reply : ReplyA
  deriving Inhabited
def MsgA.enc (x : MsgA) : List Value := [.int .i64 x.fr] ++ [.int .i64 x.to] ++ [.int .i64 x.kind] ++ x.txn.enc ++ x.work.enc ++ [.bool x.yes] ++ [.int .i64 x.iD] ++ x.call.enc ++ x.reply.enc
theorem msga_len (x : MsgA) : x.enc.length = 19 := rfl
def MsgA.ok (W : World) (x : MsgA) : Prop := (-9223372036854775808 ≤ x.fr ∧ x.fr ≤ 9223372036854775807) ∧ (-9223372036854775808 ≤ x.to ∧ x.to ≤ 9223372036854775807) ∧ (-9223372036854775808 ≤ x.kind ∧ x.kind ≤ 9223372036854775807) ∧ x.txn.ok W ∧ x.work.ok W ∧ (-9223372036854775808 ≤ x.iD ∧ x.iD ≤ 9223372036854775807) ∧ x.call.ok W ∧ x.reply.ok W
theorem cel_msga {w : World} (n : Nat) (cs : List Value) (h : Cel Try.prog w n 41 cs) : ∃ x : MsgA, cs = x.enc ∧ x.ok w := by
  obtain ⟨hl, m, hf⟩ := cel_fields (k := 19) (rows := [(3, 0, 1), (3, 1, 1), (31, 2, 1), (33, 3, 3), (36, 6, 3), (4, 9, 1), (3, 10, 1), (27, 11, 4), (39, 15, 4)]) Try.underlying41 (by kernel_rfl) (by kernel_rfl) h
  simp only [List.forall_mem_cons] at hf
  obtain ⟨h0, h1, h2, h3, h4, h5, h6, h7, h8, _⟩ := hf
  obtain ⟨f0, e0, w0⟩ := cel_int Try.underlying3 h0
  obtain ⟨f1, e1, w1⟩ := cel_int Try.underlying3 h1
  obtain ⟨f2, e2, w2⟩ := cel_int Try.underlying31 h2
  obtain ⟨f3, e3, w3⟩ := cel_txna _ _ h3
  obtain ⟨f4, e4, w4⟩ := cel_worka _ _ h4
  obtain ⟨f5, e5⟩ := cel_bool Try.underlying4 h5
  obtain ⟨f6, e6, w6⟩ := cel_int Try.underlying3 h6
  obtain ⟨f7, e7, w7⟩ := cel_calla _ _ h7
  obtain ⟨f8, e8, w8⟩ := cel_replya _ _ h8
  have t0 := seg_ (off' := 1) e0 rfl
  have t1 := seg_ (off' := 2) e1 rfl
  have t2 := seg_ (off' := 3) e2 rfl
  have t3 := seg_ (off' := 6) e3 rfl
  have t4 := seg_ (off' := 9) e4 rfl
  have t5 := seg_ (off' := 10) e5 rfl
  have t6 := seg_ (off' := 11) e6 rfl
  have t7 := seg_ (off' := 15) e7 rfl
  have t8 := seg_ (off' := 19) e8 rfl
  rw [List.drop_zero] at t0
  refine ⟨⟨f0, f1, f2, f3, f4, f5, f6, f7, f8⟩, ?_, wf_bd w0, wf_bd w1, wf_bd w2, w3, w4, wf_bd w6, w7, w8⟩
  rw [t0, t1, t2, t3, t4, t5, t6, t7, t8, List.drop_of_length_le (by omega)]
  first | rfl | simp [MsgA.enc]
structure OpA where
  kind : Int
  a : Int
  b : Int
  call : CallA
  m : MsgA
  reply : ReplyA
  done : Bool
  deriving Inhabited
def OpA.enc (x : OpA) : List Value := [.int .i64 x.kind] ++ [.int .i64 x.a] ++ [.int .i64 x.b] ++ x.call.enc ++ x.m.enc ++ x.reply.enc ++ [.bool x.done]
theorem opa_len (x : OpA) : x.enc.length = 31 := rfl
def OpA.ok (W : World) (x : OpA) : Prop := (-9223372036854775808 ≤ x.kind ∧ x.kind ≤ 9223372036854775807) ∧ (-9223372036854775808 ≤ x.a ∧ x.a ≤ 9223372036854775807) ∧ (-9223372036854775808 ≤ x.b ∧ x.b ≤ 9223372036854775807) ∧ x.call.ok W ∧ x.m.ok W ∧ x.reply.ok W
theorem cel_opa {w : World} (n : Nat) (cs : List Value) (h : Cel Try.prog w n 55 cs) : ∃ x : OpA, cs = x.enc ∧ x.ok w := by
  obtain ⟨hl, m, hf⟩ := cel_fields (k := 31) (rows := [(3, 0, 1), (3, 1, 1), (3, 2, 1), (27, 3, 4), (41, 7, 19), (39, 26, 4), (4, 30, 1)]) Try.underlying55 (by kernel_rfl) (by kernel_rfl) h
  simp only [List.forall_mem_cons] at hf
  obtain ⟨h0, h1, h2, h3, h4, h5, h6, _⟩ := hf
  obtain ⟨f0, e0, w0⟩ := cel_int Try.underlying3 h0
  obtain ⟨f1, e1, w1⟩ := cel_int Try.underlying3 h1
  obtain ⟨f2, e2, w2⟩ := cel_int Try.underlying3 h2
  obtain ⟨f3, e3, w3⟩ := cel_calla _ _ h3
  obtain ⟨f4, e4, w4⟩ := cel_msga _ _ h4
  obtain ⟨f5, e5, w5⟩ := cel_replya _ _ h5
  obtain ⟨f6, e6⟩ := cel_bool Try.underlying4 h6
  have t0 := seg_ (off' := 1) e0 rfl
  have t1 := seg_ (off' := 2) e1 rfl
  have t2 := seg_ (off' := 3) e2 rfl
  have t3 := seg_ (off' := 7) e3 rfl
  have t4 := seg_ (off' := 26) e4 rfl
  have t5 := seg_ (off' := 30) e5 rfl
  have t6 := seg_ (off' := 31) e6 rfl
  rw [List.drop_zero] at t0
  refine ⟨⟨f0, f1, f2, f3, f4, f5, f6⟩, ?_, wf_bd w0, wf_bd w1, wf_bd w2, w3, w4, w5⟩
  rw [t0, t1, t2, t3, t4, t5, t6, List.drop_of_length_le (by omega)]
  first | rfl | simp [OpA.enc]
end Go.Proofs.Ytgidkjfakecniaa
