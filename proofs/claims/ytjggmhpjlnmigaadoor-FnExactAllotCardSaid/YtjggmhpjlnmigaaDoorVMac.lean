/- Machines: six rows and four numbers. -/
import Derived.Test.YtjggmhpjlnmigaaDoorVRow
namespace Go.Proofs.YtjggmhpjlnmigaaDoor
open Go.RowKit
set_option maxRecDepth 20000
set_option linter.unusedSimpArgs false
set_option linter.unusedVariables false
theorem Sep.join1 {h0 h h' : Hp} {L : List Asn} {A : Asn} (s : Sep h0 h L) (t : Sep h h' [A]) : Sep h0 h' (A :: L) := s.join t
theorem Sep.join6 {h0 h h' : Hp} {L : List Asn} {A B C D E F : Asn} (s : Sep h0 h L) (t : Sep h h' [A, B, C, D, E, F]) : Sep h0 h' (A :: B :: C :: D :: E :: F :: L) := s.join t
theorem sepL_take : ∀ {M L : List Asn} {h : Hp} {S : Foot}, sepL (M ++ L) h S → sepL M h S
  | [], _, _, _, _ => trivial
  | A :: M, L, h, S, ⟨S1, S2, a, r, d, s1, s2⟩ => ⟨S1, S2, a, sepL_take r, d, s1, s2⟩
theorem Sep.take {h0 h : Hp} (M : List Asn) {L : List Asn} (s : Sep h0 h (M ++ L)) : Sep h0 h M := by
  obtain ⟨e, S, hS, r⟩ := s
  exact ⟨e, S, hS, sepL_take r⟩
/-- A slice's head. -/
structure Hdr where
  a : Option Addr
  n : Nat
  c : Nat
abbrev Hdr.v (x : Hdr) : Value := .slice x.a x.n x.c
/-- A machine's numbers. -/
@[ext] structure Mac where
  code : List Int
  pc : Int
  regs : List Int
  data : List Int
  stack : List Int
  inp : List Int
  out : List Int
  steps : Int
  fin : Int
  value : Int
deriving DecidableEq
structure MH where
  c : Hdr
  r : Hdr
  d : Hdr
  s : Hdr
  i : Hdr
  o : Hdr
abbrev MH.v (x : MH) (m : Mac) : Value := .agg #[x.c.v, .int .i64 m.pc, x.r.v, x.d.v, x.s.v, x.i.v, x.o.v, .int .i64 m.steps, .int .i64 m.fin, .int .i64 m.value]
abbrev SlI (x : Hdr) (l : List Int) : Asn := Sl 3 x.a x.n x.c (ints .i64 l)
abbrev SlB (x : Hdr) (l : List Int) : Asn := Sl 5 x.a x.n x.c (ints .u8 l)
/-- The pieces that a machine owns. -/
abbrev MH.own (x : MH) (m : Mac) : List Asn := [SlB x.o m.out, SlB x.i m.inp, SlB x.s m.stack, SlB x.d m.data, SlI x.r m.regs, SlI x.c m.code]
/-- A machine that is read. -/
structure RdM (h : Hp) (x : MH) (m : Mac) : Prop where
  c : Rd h x.c.a (ints .i64 m.code)
  r : Rd h x.r.a (ints .i64 m.regs)
  d : Rd h x.d.a (ints .u8 m.data)
  s : Rd h x.s.a (ints .u8 m.stack)
  i : Rd h x.i.a (ints .u8 m.inp)
  o : Rd h x.o.a (ints .u8 m.out)
  cl : m.code.length = x.c.n
  rl : m.regs.length = x.r.n
  dl : m.data.length = x.d.n
  sl : m.stack.length = x.s.n
  il : m.inp.length = x.i.n
  ol : m.out.length = x.o.n
theorem RdM.ext {h h' : Hp} {x : MH} {m : Mac} (r : RdM h x m) (e : Ext h h') : RdM h' x m := ⟨r.c.ext e, r.r.ext e, r.d.ext e, r.s.ext e, r.i.ext e, r.o.ext e, r.cl, r.rl, r.dl, r.sl, r.il, r.ol⟩
theorem Sep.rdm {h0 h : Hp} {L : List Asn} {x : MH} {m : Mac} (s : Sep h0 h (x.own m ++ L)) : RdM h x m :=
  ⟨s.rd 5 rfl, s.rd 4 rfl, s.rd 3 rfl, s.rd 2 rfl, s.rd 1 rfl, s.rd 0 rfl, by simpa using (s.len 5 rfl).1, by simpa using (s.len 4 rfl).1, by simpa using (s.len 3 rfl).1, by simpa using (s.len 2 rfl).1, by simpa using (s.len 1 rfl).1, by simpa using (s.len 0 rfl).1⟩
/-- All rows are small. -/
structure Small (x : MH) : Prop where
  c : x.c.n ≤ 1000000000
  r : x.r.n ≤ 1000000000
  d : x.d.n ≤ 1000000000
  s : x.s.n ≤ 1000000000
  i : x.i.n ≤ 1000000000
  o : x.o.n ≤ 1000000000
/-- A machine's rows marked. -/
def markM (m : Mac) (k : Int) : Mac :=
  { m with
    code := marks .i64 k m.code.length
    regs := marks .i64 (k + m.code.length) m.regs.length
    data := marks .u8 (k + m.code.length + m.regs.length) m.data.length
    stack := marks .u8 (k + m.code.length + m.regs.length + m.data.length) m.stack.length
    inp := marks .u8 (k + m.code.length + m.regs.length + m.data.length + m.stack.length) m.inp.length
    out := marks .u8 (k + m.code.length + m.regs.length + m.data.length + m.stack.length + m.inp.length) m.out.length }
abbrev MH.cells (x : MH) : Int := x.c.n + x.r.n + x.d.n + x.s.n + x.i.n + x.o.n
structure Wide (x : MH) : Prop where
  c : x.c.n ≤ 9223372036854775807
  r : x.r.n ≤ 9223372036854775807
  d : x.d.n ≤ 9223372036854775807
  s : x.s.n ≤ 9223372036854775807
  i : x.i.n ≤ 9223372036854775807
  o : x.o.n ≤ 9223372036854775807
end Go.Proofs.YtjggmhpjlnmigaaDoor
