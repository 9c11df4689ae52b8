/- Machines: six rows and four numbers. -/
import Derived.Test.YthndggachjdkfaaVRow
namespace Go.Proofs.Ythndggachjdkfaa
open Go.RowKit
set_option maxRecDepth 20000
set_option linter.unusedSimpArgs false
set_option linter.unusedVariables false
theorem Sep.join1 {h0 h h' : Hp} {L : List Asn} {A : Asn} (s : Sep h0 h L) (t : Sep h h' [A]) : Sep h0 h' (A :: L) := s.join t
theorem Sep.join6 {h0 h h' : Hp} {L : List Asn} {A B C D E F : Asn} (s : Sep h0 h L) (t : Sep h h' [A, B, C, D, E, F]) : Sep h0 h' (A :: B :: C :: D :: E :: F :: L) := s.join t
theorem sepL_take : ∀ {M L : List Asn} {h : Hp} {S : Foot}, sepL (M ++ L) h S → sepL M h S
  | [], _, _, _, _ => trivial
  | A :: M, L, h, S, ⟨S1, S2, a, r, d, s1, s2⟩ => ⟨S1, S2, a, sepL_take r, d, s1, s2⟩
theorem Sep.take {h0 h : Hp} (M : List Asn) {L : List Asn} (s : Sep h0 h (M ++ L)) : Sep h0 h M := by
  obtain ⟨e, S, hS, r⟩ := s
  exact ⟨e, S, hS, sepL_take r⟩
/-- A slice's head. -/
structure Hdr where
  a : Option Addr
  n : Nat
  c : Nat
abbrev Hdr.v (x : Hdr) : Value := .slice x.a x.n x.c
/-- A machine's numbers. -/
@[ext] structure Mac where
  code : List Int
  pc : Int
  regs : List Int
  data : List Int
  stack : List Int
  inp : List Int
  out : List Int
  steps : Int
  fin : Int
  value : Int
deriving DecidableEq
structure MH where
  c : Hdr
  r : Hdr
  d : Hdr
  s : Hdr
  i : Hdr
  o : Hdr
abbrev MH.v (x : MH) (m : Mac) : Value := .agg #[x.c.v, .int .i64 m.pc, x.r.v, x.d.v, x.s.v, x.i.v, x.o.v, .int .i64 m.steps, .int .i64 m.fin, .int .i64 m.value]
abbrev SlI (x : Hdr) (l : List Int) : Asn := Sl 3 x.a x.n x.c (ints .i64 l)
abbrev SlB (x : Hdr) (l : List Int) : Asn := Sl 5 x.a x.n x.c (ints .u8 l)
/-- The pieces that a machine owns. -/
abbrev MH.own (x : MH) (m : Mac) : List Asn := [SlB x.o m.out, SlB x.i m.inp, SlB x.s m.stack, SlB x.d m.data, SlI x.r m.regs, SlI x.c m.code]
/-- A machine that is read. -/
structure RdM (h : Hp) (x : MH) (m : Mac) : Prop where
  c : Rd h x.c.a (ints .i64 m.code)
  r : Rd h x.r.a (ints .i64 m.regs)
  d : Rd h x.d.a (ints .u8 m.data)
  s : Rd h x.s.a (ints .u8 m.stack)
  i : Rd h x.i.a (ints .u8 m.inp)
  o : Rd h x.o.a (ints .u8 m.out)
  cl : m.code.length = x.c.n
  rl : m.regs.length = x.r.n
  dl : m.data.length = x.d.n
  sl : m.stack.length = x.s.n
  il : m.inp.length = x.i.n
  ol : m.out.length = x.o.n
theorem RdM.ext {h h' : Hp} {x : MH} {m : Mac} (r : RdM h x m) (e : Ext h h') : RdM h' x m := ⟨r.c.ext e, r.r.ext e, r.d.ext e, r.s.ext e, r.i.ext e, r.o.ext e, r.cl, r.rl, r.dl, r.sl, r.il, r.ol⟩
theorem Sep.rdm {h0 h : Hp} {L : List Asn} {x : MH} {m : Mac} (s : Sep h0 h (x.own m ++ L)) : RdM h x m :=
  ⟨s.rd 5 rfl, s.rd 4 rfl, s.rd 3 rfl, s.rd 2 rfl, s.rd 1 rfl, s.rd 0 rfl, by simpa using (s.len 5 rfl).1, by simpa using (s.len 4 rfl).1, by simpa using (s.len 3 rfl).1, by simpa using (s.len 2 rfl).1, by simpa using (s.len 1 rfl).1, by simpa using (s.len 0 rfl).1⟩
/-- All rows are small. -/
structure Small (x : MH) : Prop where
  c : x.c.n ≤ 1000000000
  r : x.r.n ≤ 1000000000
  d : x.d.n ≤ 1000000000
  s : x.s.n ≤ 1000000000
  i : x.i.n ≤ 1000000000
  o : x.o.n ≤ 1000000000
set_option maxHeartbeats 4000000 in
theorem toMachine_c {h : Hp} {x : MH} {m : Mac} (r : RdM h x m) (b : Small x) : HC Try.prog 18 [x.v m] h fun v h' => ∃ y : MH, v = y.v m ∧ Sep h h' (y.own m) := by
  refine hc_of Try.func18 (rfl : Try.f18.body = some _) Try.ntmps18 Try.results18 Try.call18 rfl ?_; have HS := Sep.nil h; conv => whnf
  repeat' ((first | ((with_reducible refine EvCall.mk (HC.mono (toIntS_c (r.c.ext HS.to_ext) r.cl b.c) ?_)); (rintro _ hN ⟨AN, cN, rfl, HS1⟩); replace HS := HS.join1 HS1; clear HS1) | ((with_reducible refine EvCall.mk (HC.mono (toIntS_c (r.r.ext HS.to_ext) r.rl b.r) ?_)); (rintro _ hN ⟨AN, cN, rfl, HS1⟩); replace HS := HS.join1 HS1; clear HS1) | ((with_reducible refine EvCall.mk (HC.mono (toByteS_c (r.d.ext HS.to_ext) r.dl b.d) ?_)); (rintro _ hN ⟨AN, cN, rfl, HS1⟩); replace HS := HS.join1 HS1; clear HS1) | ((with_reducible refine EvCall.mk (HC.mono (toByteS_c (r.s.ext HS.to_ext) r.sl b.s) ?_)); (rintro _ hN ⟨AN, cN, rfl, HS1⟩); replace HS := HS.join1 HS1; clear HS1) | ((with_reducible refine EvCall.mk (HC.mono (toByteS_c (r.i.ext HS.to_ext) r.il b.i) ?_)); (rintro _ hN ⟨AN, cN, rfl, HS1⟩); replace HS := HS.join1 HS1; clear HS1) | ((with_reducible refine EvCall.mk (HC.mono (toByteS_c (r.o.ext HS.to_ext) r.ol b.o) ?_)); (rintro _ hN ⟨AN, cN, rfl, HS1⟩); replace HS := HS.join1 HS1; clear HS1) | (with_reducible first | refine EvSeq.go ?_ | refine EvIf.tt ?_ | refine EvIf.ff ?_) | ((with_reducible refine Hole.mk (kK ?_)); clear kK) | ((with_reducible refine EvIf.mk (fun c => ?_) (fun c => ?_)) <;> (try simp only [cs_] at c) <;> (try (exfalso; first | omega | (revert c; decide)))) | ((with_reducible refine EvNew.sep HS ?_); intro bN hN HS1 hX; replace HS := HS1; clear HS1) | ((with_reducible refine EvIdx.lit ?_ ?_ ?_); (first | omega | decide); (first | omega | decide)) | ((with_reducible first | refine EvNe.mk ?_ ?_ | refine EvGe.mk ?_ ?_); (first | decide | omega)) | ((with_reducible refine EvLd.q HS (by repeat first | exact .h | apply Spot.t) ?_); (conv => whnf); intro hC) | (with_reducible refine EvLdN.q HS (by repeat first | exact .h | apply Spot.t) (fun hC => ?_)) | ((with_reducible refine EvSt.q HS (by repeat first | exact .h | apply Spot.t) ?_); (conv => whnf); intro hN HS1 hU; replace HS := HS1; clear HS1) | ((with_reducible refine EvKeep.cq (A := keepK _ _ (Hole _) _) HS (by repeat first | exact .h | apply Spot.t) ?_); (conv => whnf); (refine ⟨?_, ?_⟩); assumption; intro hC) | ((with_reducible refine EvKeep.nq (A := keepK _ _ (Hole _) _) HS (by repeat first | exact .h | apply Spot.t) ?_ ?_); assumption; intro hC) | ((fail_if_success with_reducible refine EvKeep.hole ?_); (with_reducible refine EvKeep.abs (fun X kK => ?_)))) <;> conv => whnf)
  exact ⟨⟨⟨_, _, _⟩, ⟨_, _, _⟩, ⟨_, _, _⟩, ⟨_, _, _⟩, ⟨_, _, _⟩, ⟨_, _, _⟩⟩, rfl, HS.take [_, _, _, _, _, _]⟩
set_option maxHeartbeats 4000000 in
theorem l3Copy_c {h : Hp} {x : MH} {m : Mac} (r : RdM h x m) (b : Small x) : HC Try.prog 58 [x.v m] h fun v h' => ∃ y : MH, v = y.v m ∧ Sep h h' (y.own m) := by
  refine hc_of Try.func58 (rfl : Try.f58.body = some _) Try.ntmps58 Try.results58 Try.call58 rfl ?_; have HS := Sep.nil h; conv => whnf
  repeat' ((first | ((with_reducible refine EvCall.mk (HC.mono (l3Ints_c (r.c.ext HS.to_ext) r.cl b.c) ?_)); (rintro _ hN ⟨AN, cN, rfl, HS1⟩); replace HS := HS.join1 HS1; clear HS1) | ((with_reducible refine EvCall.mk (HC.mono (l3Ints_c (r.r.ext HS.to_ext) r.rl b.r) ?_)); (rintro _ hN ⟨AN, cN, rfl, HS1⟩); replace HS := HS.join1 HS1; clear HS1) | ((with_reducible refine EvCall.mk (HC.mono (l3Bytes_c (r.d.ext HS.to_ext) r.dl b.d) ?_)); (rintro _ hN ⟨AN, cN, rfl, HS1⟩); replace HS := HS.join1 HS1; clear HS1) | ((with_reducible refine EvCall.mk (HC.mono (l3Bytes_c (r.s.ext HS.to_ext) r.sl b.s) ?_)); (rintro _ hN ⟨AN, cN, rfl, HS1⟩); replace HS := HS.join1 HS1; clear HS1) | ((with_reducible refine EvCall.mk (HC.mono (l3Bytes_c (r.i.ext HS.to_ext) r.il b.i) ?_)); (rintro _ hN ⟨AN, cN, rfl, HS1⟩); replace HS := HS.join1 HS1; clear HS1) | ((with_reducible refine EvCall.mk (HC.mono (l3Bytes_c (r.o.ext HS.to_ext) r.ol b.o) ?_)); (rintro _ hN ⟨AN, cN, rfl, HS1⟩); replace HS := HS.join1 HS1; clear HS1) | (with_reducible first | refine EvSeq.go ?_ | refine EvIf.tt ?_ | refine EvIf.ff ?_) | ((with_reducible refine Hole.mk (kK ?_)); clear kK) | ((with_reducible refine EvIf.mk (fun c => ?_) (fun c => ?_)) <;> (try simp only [cs_] at c) <;> (try (exfalso; first | omega | (revert c; decide)))) | ((with_reducible refine EvNew.sep HS ?_); intro bN hN HS1 hX; replace HS := HS1; clear HS1) | ((with_reducible refine EvIdx.lit ?_ ?_ ?_); (first | omega | decide); (first | omega | decide)) | ((with_reducible first | refine EvNe.mk ?_ ?_ | refine EvGe.mk ?_ ?_); (first | decide | omega)) | ((with_reducible refine EvLd.q HS (by repeat first | exact .h | apply Spot.t) ?_); (conv => whnf); intro hC) | (with_reducible refine EvLdN.q HS (by repeat first | exact .h | apply Spot.t) (fun hC => ?_)) | ((with_reducible refine EvSt.q HS (by repeat first | exact .h | apply Spot.t) ?_); (conv => whnf); intro hN HS1 hU; replace HS := HS1; clear HS1) | ((with_reducible refine EvKeep.cq (A := keepK _ _ (Hole _) _) HS (by repeat first | exact .h | apply Spot.t) ?_); (conv => whnf); (refine ⟨?_, ?_⟩); assumption; intro hC) | ((with_reducible refine EvKeep.nq (A := keepK _ _ (Hole _) _) HS (by repeat first | exact .h | apply Spot.t) ?_ ?_); assumption; intro hC) | ((fail_if_success with_reducible refine EvKeep.hole ?_); (with_reducible refine EvKeep.abs (fun X kK => ?_)))) <;> conv => whnf)
  exact ⟨⟨⟨_, _, _⟩, ⟨_, _, _⟩, ⟨_, _, _⟩, ⟨_, _, _⟩, ⟨_, _, _⟩, ⟨_, _, _⟩⟩, rfl, HS.take [_, _, _, _, _, _]⟩
set_option maxHeartbeats 4000000 in
theorem copy_c {h : Hp} {x : MH} {m : Mac} (r : RdM h x m) (b : Small x) : HC Try.prog 68 [x.v m] h fun v h' => ∃ y : MH, v = y.v m ∧ Sep h h' (y.own m) := by
  refine hc_of Try.func68 (rfl : Try.f68.body = some _) Try.ntmps68 Try.results68 Try.call68 rfl ?_; have HS := Sep.nil h; conv => whnf
  repeat' ((first | ((with_reducible refine EvDraw.ord (id := 1) (.go 0 (.go 1 (.go 3 (.go 4 (.alt 2 (.go 6 (.alt 5 (.alt 7 (.go 8 (.alt 9 .done .stop)) .stop) .stop)) .stop))))) fol ?_ ?_ ?_); kernel_rfl; kernel_rfl) | ((with_reducible refine EvDraw.ord (id := 2) (.go 0 (.go 1 (.go 3 (.go 4 (.go 6 (.go 7 (.go 9 (.go 10 (.alt 2 (.go 12 (.alt 5 (.alt 8 (.alt 11 (.alt 13 (.go 14 (.alt 15 (.go 16 (.alt 17 (.go 18 (.alt 19 .done .stop)) .stop)) .stop)) .stop) .stop) .stop) .stop)) .stop))))))))) fol ?_ ?_ ?_); kernel_rfl; kernel_rfl) | ((with_reducible refine EvCall.mk (HC.mono (cloneIntS_c (r.c.ext HS.to_ext) r.cl b.c) ?_)); (rintro _ hN ⟨AN, cN, rfl, HS1⟩); replace HS := HS.join1 HS1; clear HS1) | ((with_reducible refine EvCall.mk (HC.mono (cloneIntS_c (r.r.ext HS.to_ext) r.rl b.r) ?_)); (rintro _ hN ⟨AN, cN, rfl, HS1⟩); replace HS := HS.join1 HS1; clear HS1) | ((with_reducible refine EvCall.mk (HC.mono (cloneByteS_c (r.d.ext HS.to_ext) r.dl b.d) ?_)); (rintro _ hN ⟨AN, cN, rfl, HS1⟩); replace HS := HS.join1 HS1; clear HS1) | ((with_reducible refine EvCall.mk (HC.mono (cloneByteS_c (r.s.ext HS.to_ext) r.sl b.s) ?_)); (rintro _ hN ⟨AN, cN, rfl, HS1⟩); replace HS := HS.join1 HS1; clear HS1) | ((with_reducible refine EvCall.mk (HC.mono (cloneByteS_c (r.i.ext HS.to_ext) r.il b.i) ?_)); (rintro _ hN ⟨AN, cN, rfl, HS1⟩); replace HS := HS.join1 HS1; clear HS1) | ((with_reducible refine EvCall.mk (HC.mono (cloneByteS_c (r.o.ext HS.to_ext) r.ol b.o) ?_)); (rintro _ hN ⟨AN, cN, rfl, HS1⟩); replace HS := HS.join1 HS1; clear HS1) | (with_reducible first | refine EvSeq.go ?_ | refine EvIf.tt ?_ | refine EvIf.ff ?_) | ((with_reducible refine Hole.mk (kK ?_)); clear kK) | ((with_reducible refine EvIf.mk (fun c => ?_) (fun c => ?_)) <;> (try simp only [cs_] at c) <;> (try (exfalso; first | omega | (revert c; decide)))) | ((with_reducible refine EvNew.sep HS ?_); intro bN hN HS1 hX; replace HS := HS1; clear HS1) | ((with_reducible refine EvIdx.lit ?_ ?_ ?_); (first | omega | decide); (first | omega | decide)) | ((with_reducible first | refine EvNe.mk ?_ ?_ | refine EvGe.mk ?_ ?_); (first | decide | omega)) | ((with_reducible refine EvLd.q HS (by repeat first | exact .h | apply Spot.t) ?_); (conv => whnf); intro hC) | (with_reducible refine EvLdN.q HS (by repeat first | exact .h | apply Spot.t) (fun hC => ?_)) | ((with_reducible refine EvSt.q HS (by repeat first | exact .h | apply Spot.t) ?_); (conv => whnf); intro hN HS1 hU; replace HS := HS1; clear HS1) | ((with_reducible refine EvKeep.cq (A := keepK _ _ (Hole _) _) HS (by repeat first | exact .h | apply Spot.t) ?_); (conv => whnf); (refine ⟨?_, ?_⟩); assumption; intro hC) | ((with_reducible refine EvKeep.nq (A := keepK _ _ (Hole _) _) HS (by repeat first | exact .h | apply Spot.t) ?_ ?_); assumption; intro hC) | ((fail_if_success with_reducible refine EvKeep.hole ?_); (with_reducible refine EvKeep.abs (fun X kK => ?_)))) <;> conv => whnf)
  exact ⟨⟨⟨_, _, _⟩, ⟨_, _, _⟩, ⟨_, _, _⟩, ⟨_, _, _⟩, ⟨_, _, _⟩, ⟨_, _, _⟩⟩, rfl, HS.take [_, _, _, _, _, _]⟩
set_option maxHeartbeats 4000000 in
theorem eqMachine_c {h : Hp} {x y : MH} {m m' : Mac} (r : RdM h x m) (r' : RdM h y m') (b : Small x) (b' : Small y) : HC Try.prog 20 [x.v m, y.v m'] h fun v h' => v = .bool (decide (m = m')) ∧ Ext h h' := by
  refine hc_of Try.func20 (rfl : Try.f20.body = some _) Try.ntmps20 Try.results20 Try.call20 rfl ?_; have HS := Sep.nil h; conv => whnf
  repeat' ((first | ((with_reducible refine EvCall.mk (HC.mono (eqIntS_c (r.c.ext HS.to_ext) r.cl (r'.c.ext HS.to_ext) r'.cl b.c b'.c) ?_)); (rintro _ _ ⟨rfl, rfl⟩)) | ((with_reducible refine EvCall.mk (HC.mono (eqIntS_c (r.r.ext HS.to_ext) r.rl (r'.r.ext HS.to_ext) r'.rl b.r b'.r) ?_)); (rintro _ _ ⟨rfl, rfl⟩)) | ((with_reducible refine EvCall.mk (HC.mono (eqByteS_c (r.d.ext HS.to_ext) r.dl (r'.d.ext HS.to_ext) r'.dl b.d b'.d) ?_)); (rintro _ _ ⟨rfl, rfl⟩)) | ((with_reducible refine EvCall.mk (HC.mono (eqByteS_c (r.s.ext HS.to_ext) r.sl (r'.s.ext HS.to_ext) r'.sl b.s b'.s) ?_)); (rintro _ _ ⟨rfl, rfl⟩)) | ((with_reducible refine EvCall.mk (HC.mono (eqByteS_c (r.i.ext HS.to_ext) r.il (r'.i.ext HS.to_ext) r'.il b.i b'.i) ?_)); (rintro _ _ ⟨rfl, rfl⟩)) | ((with_reducible refine EvCall.mk (HC.mono (eqByteS_c (r.o.ext HS.to_ext) r.ol (r'.o.ext HS.to_ext) r'.ol b.o b'.o) ?_)); (rintro _ _ ⟨rfl, rfl⟩)) | (with_reducible first | refine EvSeq.go ?_ | refine EvIf.tt ?_ | refine EvIf.ff ?_) | ((with_reducible refine Hole.mk (kK ?_)); clear kK) | ((with_reducible refine EvIf.mk (fun c => ?_) (fun c => ?_)) <;> (try simp only [cs_] at c) <;> (try (exfalso; first | omega | (revert c; decide)))) | ((with_reducible refine EvNew.sep HS ?_); intro bN hN HS1 hX; replace HS := HS1; clear HS1) | ((with_reducible refine EvIdx.lit ?_ ?_ ?_); (first | omega | decide); (first | omega | decide)) | ((with_reducible first | refine EvNe.mk ?_ ?_ | refine EvGe.mk ?_ ?_); (first | decide | omega)) | ((with_reducible refine EvLd.q HS (by repeat first | exact .h | apply Spot.t) ?_); (conv => whnf); intro hC) | (with_reducible refine EvLdN.q HS (by repeat first | exact .h | apply Spot.t) (fun hC => ?_)) | ((with_reducible refine EvSt.q HS (by repeat first | exact .h | apply Spot.t) ?_); (conv => whnf); intro hN HS1 hU; replace HS := HS1; clear HS1) | ((with_reducible refine EvKeep.cq (A := keepK _ _ (Hole _) _) HS (by repeat first | exact .h | apply Spot.t) ?_); (conv => whnf); (refine ⟨?_, ?_⟩); assumption; intro hC) | ((with_reducible refine EvKeep.nq (A := keepK _ _ (Hole _) _) HS (by repeat first | exact .h | apply Spot.t) ?_ ?_); assumption; intro hC) | ((fail_if_success with_reducible refine EvKeep.hole ?_); (with_reducible refine EvKeep.abs (fun X kK => ?_)))) <;> conv => whnf)
  all_goals refine ⟨?_, HS.to_ext⟩
  all_goals first
    | exact congrArg Value.bool (decide_eq_false (fun e => c (by rw [e]))).symm
    | exact congrArg Value.bool (decide_eq_true (Mac.ext (by assumption) (by assumption) (by assumption) (by assumption) (by assumption) (by assumption) (by assumption) (by assumption) (by assumption) (by assumption))).symm
/-- A machine's rows marked. -/
def markM (m : Mac) (k : Int) : Mac :=
  { m with
    code := marks .i64 k m.code.length
    regs := marks .i64 (k + m.code.length) m.regs.length
    data := marks .u8 (k + m.code.length + m.regs.length) m.data.length
    stack := marks .u8 (k + m.code.length + m.regs.length + m.data.length) m.stack.length
    inp := marks .u8 (k + m.code.length + m.regs.length + m.data.length + m.stack.length) m.inp.length
    out := marks .u8 (k + m.code.length + m.regs.length + m.data.length + m.stack.length + m.inp.length) m.out.length }
abbrev MH.cells (x : MH) : Int := x.c.n + x.r.n + x.d.n + x.s.n + x.i.n + x.o.n
set_option maxHeartbeats 4000000 in
theorem markMachine_c {h0 h : Hp} {L : List Asn} {x : MH} {m : Mac} {k : Int} (HS : Sep h0 h (x.own m ++ L)) (b : Small x) (k0 : 0 ≤ k) (k1 : k ≤ 100000000000) : HC Try.prog 27 [x.v m, .int .i64 k] h fun v h' => v = .int .i64 (k + x.cells) ∧ Sep h0 h' (x.own (markM m k) ++ L) := by
  have r := HS.rdm
  have ⟨b1, b2, b3, b4, b5, b6⟩ := b
  refine hc_of Try.func27 (rfl : Try.f27.body = some _) Try.ntmps27 Try.results27 Try.call27 rfl ?_; conv => whnf
  repeat' ((first | (with_reducible first | refine EvSeq.go ?_ | refine EvIf.tt ?_ | refine EvIf.ff ?_) | ((with_reducible refine Hole.mk (kK ?_)); clear kK) | ((with_reducible refine EvIf.mk (fun c => ?_) (fun c => ?_)) <;> (try simp only [cs_] at c) <;> (try (exfalso; first | omega | (revert c; decide)))) | ((with_reducible refine EvNew.sep HS ?_); intro bN hN HS1 hX; replace HS := HS1; clear HS1) | ((with_reducible refine EvIdx.lit ?_ ?_ ?_); (first | omega | decide); (first | omega | decide)) | ((with_reducible first | refine EvNe.mk ?_ ?_ | refine EvGe.mk ?_ ?_); (first | decide | omega)) | ((with_reducible refine EvLd.q HS (by repeat first | exact .h | apply Spot.t) ?_); (conv => whnf); intro hC) | (with_reducible refine EvLdN.q HS (by repeat first | exact .h | apply Spot.t) (fun hC => ?_)) | ((with_reducible refine EvSt.q HS (by repeat first | exact .h | apply Spot.t) ?_); (conv => whnf); intro hN HS1 hU; replace HS := HS1; clear HS1) | ((with_reducible refine EvKeep.cq (A := keepK _ _ (Hole _) _) HS (by repeat first | exact .h | apply Spot.t) ?_); (conv => whnf); (refine ⟨?_, ?_⟩); assumption; intro hC) | ((with_reducible refine EvKeep.nq (A := keepK _ _ (Hole _) _) HS (by repeat first | exact .h | apply Spot.t) ?_ ?_); assumption; intro hC) | ((fail_if_success with_reducible refine EvKeep.hole ?_); (with_reducible refine EvKeep.abs (fun X kK => ?_)))) <;> conv => whnf)
  refine EvCall.mk ((markIntS_c (HS.front 6 rfl) b.c (by omega) (by omega)).mono ?_)
  rintro _ hN ⟨rfl, HS1⟩
  replace HS := HS1
  clear HS1
  dsimp only [List.eraseIdx, MH.own, List.cons_append, List.nil_append] at HS
  conv => whnf
  repeat' ((first | (with_reducible first | refine EvSeq.go ?_ | refine EvIf.tt ?_ | refine EvIf.ff ?_) | ((with_reducible refine Hole.mk (kK ?_)); clear kK) | ((with_reducible refine EvIf.mk (fun c => ?_) (fun c => ?_)) <;> (try simp only [cs_] at c) <;> (try (exfalso; first | omega | (revert c; decide)))) | ((with_reducible refine EvNew.sep HS ?_); intro bN hN HS1 hX; replace HS := HS1; clear HS1) | ((with_reducible refine EvIdx.lit ?_ ?_ ?_); (first | omega | decide); (first | omega | decide)) | ((with_reducible first | refine EvNe.mk ?_ ?_ | refine EvGe.mk ?_ ?_); (first | decide | omega)) | ((with_reducible refine EvLd.q HS (by repeat first | exact .h | apply Spot.t) ?_); (conv => whnf); intro hC) | (with_reducible refine EvLdN.q HS (by repeat first | exact .h | apply Spot.t) (fun hC => ?_)) | ((with_reducible refine EvSt.q HS (by repeat first | exact .h | apply Spot.t) ?_); (conv => whnf); intro hN HS1 hU; replace HS := HS1; clear HS1) | ((with_reducible refine EvKeep.cq (A := keepK _ _ (Hole _) _) HS (by repeat first | exact .h | apply Spot.t) ?_); (conv => whnf); (refine ⟨?_, ?_⟩); assumption; intro hC) | ((with_reducible refine EvKeep.nq (A := keepK _ _ (Hole _) _) HS (by repeat first | exact .h | apply Spot.t) ?_ ?_); assumption; intro hC) | ((fail_if_success with_reducible refine EvKeep.hole ?_); (with_reducible refine EvKeep.abs (fun X kK => ?_)))) <;> conv => whnf)
  refine EvCall.mk ((markIntS_c (HS.front 6 rfl) b.r (by omega) (by omega)).mono ?_)
  rintro _ hN ⟨rfl, HS1⟩
  replace HS := HS1
  clear HS1
  dsimp only [List.eraseIdx, MH.own, List.cons_append, List.nil_append] at HS
  conv => whnf
  repeat' ((first | (with_reducible first | refine EvSeq.go ?_ | refine EvIf.tt ?_ | refine EvIf.ff ?_) | ((with_reducible refine Hole.mk (kK ?_)); clear kK) | ((with_reducible refine EvIf.mk (fun c => ?_) (fun c => ?_)) <;> (try simp only [cs_] at c) <;> (try (exfalso; first | omega | (revert c; decide)))) | ((with_reducible refine EvNew.sep HS ?_); intro bN hN HS1 hX; replace HS := HS1; clear HS1) | ((with_reducible refine EvIdx.lit ?_ ?_ ?_); (first | omega | decide); (first | omega | decide)) | ((with_reducible first | refine EvNe.mk ?_ ?_ | refine EvGe.mk ?_ ?_); (first | decide | omega)) | ((with_reducible refine EvLd.q HS (by repeat first | exact .h | apply Spot.t) ?_); (conv => whnf); intro hC) | (with_reducible refine EvLdN.q HS (by repeat first | exact .h | apply Spot.t) (fun hC => ?_)) | ((with_reducible refine EvSt.q HS (by repeat first | exact .h | apply Spot.t) ?_); (conv => whnf); intro hN HS1 hU; replace HS := HS1; clear HS1) | ((with_reducible refine EvKeep.cq (A := keepK _ _ (Hole _) _) HS (by repeat first | exact .h | apply Spot.t) ?_); (conv => whnf); (refine ⟨?_, ?_⟩); assumption; intro hC) | ((with_reducible refine EvKeep.nq (A := keepK _ _ (Hole _) _) HS (by repeat first | exact .h | apply Spot.t) ?_ ?_); assumption; intro hC) | ((fail_if_success with_reducible refine EvKeep.hole ?_); (with_reducible refine EvKeep.abs (fun X kK => ?_)))) <;> conv => whnf)
  refine EvCall.mk ((markByteS_c (HS.front 6 rfl) b.d (by omega) (by omega)).mono ?_)
  rintro _ hN ⟨rfl, HS1⟩
  replace HS := HS1
  clear HS1
  dsimp only [List.eraseIdx, MH.own, List.cons_append, List.nil_append] at HS
  conv => whnf
  repeat' ((first | (with_reducible first | refine EvSeq.go ?_ | refine EvIf.tt ?_ | refine EvIf.ff ?_) | ((with_reducible refine Hole.mk (kK ?_)); clear kK) | ((with_reducible refine EvIf.mk (fun c => ?_) (fun c => ?_)) <;> (try simp only [cs_] at c) <;> (try (exfalso; first | omega | (revert c; decide)))) | ((with_reducible refine EvNew.sep HS ?_); intro bN hN HS1 hX; replace HS := HS1; clear HS1) | ((with_reducible refine EvIdx.lit ?_ ?_ ?_); (first | omega | decide); (first | omega | decide)) | ((with_reducible first | refine EvNe.mk ?_ ?_ | refine EvGe.mk ?_ ?_); (first | decide | omega)) | ((with_reducible refine EvLd.q HS (by repeat first | exact .h | apply Spot.t) ?_); (conv => whnf); intro hC) | (with_reducible refine EvLdN.q HS (by repeat first | exact .h | apply Spot.t) (fun hC => ?_)) | ((with_reducible refine EvSt.q HS (by repeat first | exact .h | apply Spot.t) ?_); (conv => whnf); intro hN HS1 hU; replace HS := HS1; clear HS1) | ((with_reducible refine EvKeep.cq (A := keepK _ _ (Hole _) _) HS (by repeat first | exact .h | apply Spot.t) ?_); (conv => whnf); (refine ⟨?_, ?_⟩); assumption; intro hC) | ((with_reducible refine EvKeep.nq (A := keepK _ _ (Hole _) _) HS (by repeat first | exact .h | apply Spot.t) ?_ ?_); assumption; intro hC) | ((fail_if_success with_reducible refine EvKeep.hole ?_); (with_reducible refine EvKeep.abs (fun X kK => ?_)))) <;> conv => whnf)
  refine EvCall.mk ((markByteS_c (HS.front 6 rfl) b.s (by omega) (by omega)).mono ?_)
  rintro _ hN ⟨rfl, HS1⟩
  replace HS := HS1
  clear HS1
  dsimp only [List.eraseIdx, MH.own, List.cons_append, List.nil_append] at HS
  conv => whnf
  repeat' ((first | (with_reducible first | refine EvSeq.go ?_ | refine EvIf.tt ?_ | refine EvIf.ff ?_) | ((with_reducible refine Hole.mk (kK ?_)); clear kK) | ((with_reducible refine EvIf.mk (fun c => ?_) (fun c => ?_)) <;> (try simp only [cs_] at c) <;> (try (exfalso; first | omega | (revert c; decide)))) | ((with_reducible refine EvNew.sep HS ?_); intro bN hN HS1 hX; replace HS := HS1; clear HS1) | ((with_reducible refine EvIdx.lit ?_ ?_ ?_); (first | omega | decide); (first | omega | decide)) | ((with_reducible first | refine EvNe.mk ?_ ?_ | refine EvGe.mk ?_ ?_); (first | decide | omega)) | ((with_reducible refine EvLd.q HS (by repeat first | exact .h | apply Spot.t) ?_); (conv => whnf); intro hC) | (with_reducible refine EvLdN.q HS (by repeat first | exact .h | apply Spot.t) (fun hC => ?_)) | ((with_reducible refine EvSt.q HS (by repeat first | exact .h | apply Spot.t) ?_); (conv => whnf); intro hN HS1 hU; replace HS := HS1; clear HS1) | ((with_reducible refine EvKeep.cq (A := keepK _ _ (Hole _) _) HS (by repeat first | exact .h | apply Spot.t) ?_); (conv => whnf); (refine ⟨?_, ?_⟩); assumption; intro hC) | ((with_reducible refine EvKeep.nq (A := keepK _ _ (Hole _) _) HS (by repeat first | exact .h | apply Spot.t) ?_ ?_); assumption; intro hC) | ((fail_if_success with_reducible refine EvKeep.hole ?_); (with_reducible refine EvKeep.abs (fun X kK => ?_)))) <;> conv => whnf)
  refine EvCall.mk ((markByteS_c (HS.front 6 rfl) b.i (by omega) (by omega)).mono ?_)
  rintro _ hN ⟨rfl, HS1⟩
  replace HS := HS1
  clear HS1
  dsimp only [List.eraseIdx, MH.own, List.cons_append, List.nil_append] at HS
  conv => whnf
  repeat' ((first | (with_reducible first | refine EvSeq.go ?_ | refine EvIf.tt ?_ | refine EvIf.ff ?_) | ((with_reducible refine Hole.mk (kK ?_)); clear kK) | ((with_reducible refine EvIf.mk (fun c => ?_) (fun c => ?_)) <;> (try simp only [cs_] at c) <;> (try (exfalso; first | omega | (revert c; decide)))) | ((with_reducible refine EvNew.sep HS ?_); intro bN hN HS1 hX; replace HS := HS1; clear HS1) | ((with_reducible refine EvIdx.lit ?_ ?_ ?_); (first | omega | decide); (first | omega | decide)) | ((with_reducible first | refine EvNe.mk ?_ ?_ | refine EvGe.mk ?_ ?_); (first | decide | omega)) | ((with_reducible refine EvLd.q HS (by repeat first | exact .h | apply Spot.t) ?_); (conv => whnf); intro hC) | (with_reducible refine EvLdN.q HS (by repeat first | exact .h | apply Spot.t) (fun hC => ?_)) | ((with_reducible refine EvSt.q HS (by repeat first | exact .h | apply Spot.t) ?_); (conv => whnf); intro hN HS1 hU; replace HS := HS1; clear HS1) | ((with_reducible refine EvKeep.cq (A := keepK _ _ (Hole _) _) HS (by repeat first | exact .h | apply Spot.t) ?_); (conv => whnf); (refine ⟨?_, ?_⟩); assumption; intro hC) | ((with_reducible refine EvKeep.nq (A := keepK _ _ (Hole _) _) HS (by repeat first | exact .h | apply Spot.t) ?_ ?_); assumption; intro hC) | ((fail_if_success with_reducible refine EvKeep.hole ?_); (with_reducible refine EvKeep.abs (fun X kK => ?_)))) <;> conv => whnf)
  refine EvCall.mk ((markByteS_c (HS.front 6 rfl) b.o (by omega) (by omega)).mono ?_)
  rintro _ hN ⟨rfl, HS1⟩
  replace HS := HS1
  clear HS1
  dsimp only [List.eraseIdx, MH.own, List.cons_append, List.nil_append] at HS
  conv => whnf
  repeat' ((first | (with_reducible first | refine EvSeq.go ?_ | refine EvIf.tt ?_ | refine EvIf.ff ?_) | ((with_reducible refine Hole.mk (kK ?_)); clear kK) | ((with_reducible refine EvIf.mk (fun c => ?_) (fun c => ?_)) <;> (try simp only [cs_] at c) <;> (try (exfalso; first | omega | (revert c; decide)))) | ((with_reducible refine EvNew.sep HS ?_); intro bN hN HS1 hX; replace HS := HS1; clear HS1) | ((with_reducible refine EvIdx.lit ?_ ?_ ?_); (first | omega | decide); (first | omega | decide)) | ((with_reducible first | refine EvNe.mk ?_ ?_ | refine EvGe.mk ?_ ?_); (first | decide | omega)) | ((with_reducible refine EvLd.q HS (by repeat first | exact .h | apply Spot.t) ?_); (conv => whnf); intro hC) | (with_reducible refine EvLdN.q HS (by repeat first | exact .h | apply Spot.t) (fun hC => ?_)) | ((with_reducible refine EvSt.q HS (by repeat first | exact .h | apply Spot.t) ?_); (conv => whnf); intro hN HS1 hU; replace HS := HS1; clear HS1) | ((with_reducible refine EvKeep.cq (A := keepK _ _ (Hole _) _) HS (by repeat first | exact .h | apply Spot.t) ?_); (conv => whnf); (refine ⟨?_, ?_⟩); assumption; intro hC) | ((with_reducible refine EvKeep.nq (A := keepK _ _ (Hole _) _) HS (by repeat first | exact .h | apply Spot.t) ?_ ?_); assumption; intro hC) | ((fail_if_success with_reducible refine EvKeep.hole ?_); (with_reducible refine EvKeep.abs (fun X kK => ?_)))) <;> conv => whnf)
  refine ⟨congrArg (Value.int .i64) (by simp only [MH.cells]; omega), ?_⟩
  have HS := (HS.front 6 rfl).tail
  unfold markM
  rw [r.cl, r.rl, r.dl, r.sl, r.il, r.ol]
  exact HS
set_option maxHeartbeats 4000000 in
theorem heldMachine_c {h : Hp} {x : MH} {m : Mac} {k : Int} (r : RdM h x (markM m k)) (r0 : m.code.length = x.c.n ∧ m.regs.length = x.r.n ∧ m.data.length = x.d.n ∧ m.stack.length = x.s.n ∧ m.inp.length = x.i.n ∧ m.out.length = x.o.n) (b : Small x) (k0 : 0 ≤ k) (k1 : k ≤ 100000000000) {m' : Mac} : HC Try.prog 28 [x.v m', .int .i64 k] h fun v h' => v = .int .i64 (k + x.cells) ∧ Ext h h' := by
  have ⟨b1, b2, b3, b4, b5, b6⟩ := b
  obtain ⟨q1, q2, q3, q4, q5, q6⟩ := r0
  have rc : Rd h x.c.a (ints .i64 (marks .i64 k x.c.n)) := by have := r.c; unfold markM at this; rwa [q1] at this
  have rr : Rd h x.r.a (ints .i64 (marks .i64 (k + x.c.n) x.r.n)) := by have := r.r; unfold markM at this; rwa [q1, q2] at this
  have rd : Rd h x.d.a (ints .u8 (marks .u8 (k + x.c.n + x.r.n) x.d.n)) := by have := r.d; unfold markM at this; rwa [q1, q2, q3] at this
  have rs : Rd h x.s.a (ints .u8 (marks .u8 (k + x.c.n + x.r.n + x.d.n) x.s.n)) := by have := r.s; unfold markM at this; rwa [q1, q2, q3, q4] at this
  have ri : Rd h x.i.a (ints .u8 (marks .u8 (k + x.c.n + x.r.n + x.d.n + x.s.n) x.i.n)) := by have := r.i; unfold markM at this; rwa [q1, q2, q3, q4, q5] at this
  have ro : Rd h x.o.a (ints .u8 (marks .u8 (k + x.c.n + x.r.n + x.d.n + x.s.n + x.i.n) x.o.n)) := by have := r.o; unfold markM at this; rwa [q1, q2, q3, q4, q5, q6] at this
  refine hc_of Try.func28 (rfl : Try.f28.body = some _) Try.ntmps28 Try.results28 Try.call28 rfl ?_; have HS := Sep.nil h; conv => whnf
  repeat' ((first | ((with_reducible refine EvCall.mk (HC.mono (heldIntS_c (rc.ext HS.to_ext) b.c (by omega) (by omega)) ?_)); (rintro _ _ ⟨rfl, rfl⟩)) | ((with_reducible refine EvCall.mk (HC.mono (heldIntS_c (rr.ext HS.to_ext) b.r (by omega) (by omega)) ?_)); (rintro _ _ ⟨rfl, rfl⟩)) | ((with_reducible refine EvCall.mk (HC.mono (heldByteS_c (rd.ext HS.to_ext) b.d (by omega) (by omega)) ?_)); (rintro _ _ ⟨rfl, rfl⟩)) | ((with_reducible refine EvCall.mk (HC.mono (heldByteS_c (rs.ext HS.to_ext) b.s (by omega) (by omega)) ?_)); (rintro _ _ ⟨rfl, rfl⟩)) | ((with_reducible refine EvCall.mk (HC.mono (heldByteS_c (ri.ext HS.to_ext) b.i (by omega) (by omega)) ?_)); (rintro _ _ ⟨rfl, rfl⟩)) | ((with_reducible refine EvCall.mk (HC.mono (heldByteS_c (ro.ext HS.to_ext) b.o (by omega) (by omega)) ?_)); (rintro _ _ ⟨rfl, rfl⟩)) | (with_reducible first | refine EvSeq.go ?_ | refine EvIf.tt ?_ | refine EvIf.ff ?_) | ((with_reducible refine Hole.mk (kK ?_)); clear kK) | ((with_reducible refine EvIf.mk (fun c => ?_) (fun c => ?_)) <;> (try simp only [cs_] at c) <;> (try (exfalso; first | omega | (revert c; decide)))) | ((with_reducible refine EvNew.sep HS ?_); intro bN hN HS1 hX; replace HS := HS1; clear HS1) | ((with_reducible refine EvIdx.lit ?_ ?_ ?_); (first | omega | decide); (first | omega | decide)) | ((with_reducible first | refine EvNe.mk ?_ ?_ | refine EvGe.mk ?_ ?_); (first | decide | omega)) | ((with_reducible refine EvLd.q HS (by repeat first | exact .h | apply Spot.t) ?_); (conv => whnf); intro hC) | (with_reducible refine EvLdN.q HS (by repeat first | exact .h | apply Spot.t) (fun hC => ?_)) | ((with_reducible refine EvSt.q HS (by repeat first | exact .h | apply Spot.t) ?_); (conv => whnf); intro hN HS1 hU; replace HS := HS1; clear HS1) | ((with_reducible refine EvKeep.cq (A := keepK _ _ (Hole _) _) HS (by repeat first | exact .h | apply Spot.t) ?_); (conv => whnf); (refine ⟨?_, ?_⟩); assumption; intro hC) | ((with_reducible refine EvKeep.nq (A := keepK _ _ (Hole _) _) HS (by repeat first | exact .h | apply Spot.t) ?_ ?_); assumption; intro hC) | ((fail_if_success with_reducible refine EvKeep.hole ?_); (with_reducible refine EvKeep.abs (fun X kK => ?_)))) <;> conv => whnf)
  refine ⟨congrArg (Value.int .i64) (by simp only [MH.cells]; omega), HS.to_ext⟩
structure Wide (x : MH) : Prop where
  c : x.c.n ≤ 9223372036854775807
  r : x.r.n ≤ 9223372036854775807
  d : x.d.n ≤ 9223372036854775807
  s : x.s.n ≤ 9223372036854775807
  i : x.i.n ≤ 9223372036854775807
  o : x.o.n ≤ 9223372036854775807
set_option maxHeartbeats 4000000 in
theorem szMachine_c {h : Hp} {x : MH} {m : Mac} (b : Wide x) : HC Try.prog 16 [x.v m, .int .i64 1048576] h fun v h' => (∃ r, v = .int .i64 r ∧ -1 ≤ r ∧ (0 ≤ r → Small x)) ∧ Ext h h' := by
  refine hc_of Try.func16 (rfl : Try.f16.body = some _) Try.ntmps16 Try.results16 Try.call16 rfl ?_; have HS := Sep.nil h; conv => whnf
  repeat' ((first | ((with_reducible refine EvCall.mk (HC.mono (szIntS_c _ _ _ _ _ b.c (by omega) (by omega)) ?_)); (rintro _ _ ⟨rfl, rfl⟩)) | ((with_reducible refine EvCall.mk (HC.mono (szIntS_c _ _ _ _ _ b.r (by omega) (by omega)) ?_)); (rintro _ _ ⟨rfl, rfl⟩)) | ((with_reducible refine EvCall.mk (HC.mono (szByteS_c _ _ _ _ _ b.d (by omega) (by omega)) ?_)); (rintro _ _ ⟨rfl, rfl⟩)) | ((with_reducible refine EvCall.mk (HC.mono (szByteS_c _ _ _ _ _ b.s (by omega) (by omega)) ?_)); (rintro _ _ ⟨rfl, rfl⟩)) | ((with_reducible refine EvCall.mk (HC.mono (szByteS_c _ _ _ _ _ b.i (by omega) (by omega)) ?_)); (rintro _ _ ⟨rfl, rfl⟩)) | ((with_reducible refine EvCall.mk (HC.mono (szByteS_c _ _ _ _ _ b.o (by omega) (by omega)) ?_)); (rintro _ _ ⟨rfl, rfl⟩)) | (with_reducible first | refine EvSeq.go ?_ | refine EvIf.tt ?_ | refine EvIf.ff ?_) | ((with_reducible refine Hole.mk (kK ?_)); clear kK) | ((with_reducible refine EvIf.mk (fun c => ?_) (fun c => ?_)) <;> (try simp only [cs_] at c) <;> (try (exfalso; first | omega | (revert c; decide)))) | ((with_reducible refine EvNew.sep HS ?_); intro bN hN HS1 hX; replace HS := HS1; clear HS1) | ((with_reducible refine EvIdx.lit ?_ ?_ ?_); (first | omega | decide); (first | omega | decide)) | ((with_reducible first | refine EvNe.mk ?_ ?_ | refine EvGe.mk ?_ ?_); (first | decide | omega)) | ((with_reducible refine EvLd.q HS (by repeat first | exact .h | apply Spot.t) ?_); (conv => whnf); intro hC) | (with_reducible refine EvLdN.q HS (by repeat first | exact .h | apply Spot.t) (fun hC => ?_)) | ((with_reducible refine EvSt.q HS (by repeat first | exact .h | apply Spot.t) ?_); (conv => whnf); intro hN HS1 hU; replace HS := HS1; clear HS1) | ((with_reducible refine EvKeep.cq (A := keepK _ _ (Hole _) _) HS (by repeat first | exact .h | apply Spot.t) ?_); (conv => whnf); (refine ⟨?_, ?_⟩); assumption; intro hC) | ((with_reducible refine EvKeep.nq (A := keepK _ _ (Hole _) _) HS (by repeat first | exact .h | apply Spot.t) ?_ ?_); assumption; intro hC) | ((fail_if_success with_reducible refine EvKeep.hole ?_); (with_reducible refine EvKeep.abs (fun X kK => ?_)))) <;> conv => whnf)
  all_goals first
    | exact ⟨⟨-1, rfl, by omega, fun h => absurd h (by decide)⟩, HS.to_ext⟩
    | exact ⟨⟨_, rfl, by omega, fun _ => ⟨by omega, by omega, by omega, by omega, by omega, by omega⟩⟩, HS.to_ext⟩
end Go.Proofs.Ythndggachjdkfaa
