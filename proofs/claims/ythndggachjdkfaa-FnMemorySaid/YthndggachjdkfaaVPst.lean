/- One step of the machine, in plain numbers. -/
import Derived.Test.YthndggachjdkfaaVInst9
import Derived.Test.YthndggachjdkfaaVAluS
import Derived.Test.YthndggachjdkfaaVLd
import Derived.Test.YthndggachjdkfaaVPc
namespace Go.Proofs.Ythndggachjdkfaa
open Go.RowKit
set_option maxRecDepth 20000
set_option linter.unusedSimpArgs false
set_option linter.unusedVariables false
structure Ins where
  op : Int
  d : Int
  s : Int
  t : Int
  n : Int
/-- The instruction of a word. -/
def ins (w : Int) : Option Ins := if w < 0 ∨ w > 4294967295 then none else (findOp w 47 1).map fun op => ⟨op, rrd (frm op) w, rs1 (frm op) w, rs2 (frm op) w, rimm (frm op) w⟩
theorem decp_some {w : Int} {i : Ins} (h : ins w = some i) : decp w = .tuple #[inst i.op i.d i.s i.t i.n, .bool true] := by
  unfold ins at h
  unfold decp
  split at h
  · cases h
  · rename_i hw
    rw [if_neg hw]
    cases hf : findOp w 47 1 with
    | none => rw [hf] at h; cases h
    | some op => rw [hf] at h; cases h; rfl
theorem decp_none {w : Int} (h : ins w = none) : decp w = .tuple #[inst 0 0 0 0 0, .bool false] := by
  unfold ins at h
  unfold decp
  split
  · rfl
  · rename_i hw
    rw [if_neg hw] at h
    cases hf : findOp w 47 1 with
    | none => rfl
    | some op => rw [hf] at h; cases h
theorem findOp_fits {w : Int} : ∀ {k : Nat} {o op : Int}, findOp w k o = some op → fits op w = true
  | 0, _, _, h => by cases h
  | k + 1, o, op, h => by
    unfold findOp at h
    split at h
    · cases h; assumption
    · exact findOp_fits h
theorem ins_ok {w : Int} {i : Ins} (h : ins w = some i) : iok i.op i.d i.s i.t i.n = true := by
  unfold ins at h
  split at h
  · cases h
  · cases hf : findOp w 47 1 with
    | none => rw [hf] at h; cases h
    | some op =>
      rw [hf] at h
      cases h
      have := findOp_fits hf
      unfold fits at this
      simp only [Bool.and_eq_true] at this
      exact this.2.1
def getR (m : Mac) (i : Int) : Int := m.regs.getD i.toNat 0
def rset (l : List Int) (d v : Int) : List Int := if d = 0 then l else l.set d.toNat (v % 4294967296)
def setR (m : Mac) (d v : Int) : Mac := { m with regs := rset m.regs d v }
def nx (m : Mac) (p : Int) : Mac := { m with pc := p % 4294967296 }
def immOp (op : Int) : Int := [1, 4, 5, 6, 9, 10, 3, 7, 8].getD (op - 19).toNat 0
def ldK (op : Int) : Int := [1, 3, 5, 2, 4].getD (op - 28).toNat 0
def stK (op : Int) : Int := [2, 4, 5].getD (op - 34).toNat 0
def taken (op x y : Int) : Bool := if op = 37 then decide (x = y) else if op = 38 then decide (x ≠ y) else if op = 39 then decide (sg x < sg y) else if op = 40 then decide (sg x ≥ sg y) else if op = 41 then decide (x < y) else decide (x ≥ y)
def ecl (m : Mac) : Mac × Int :=
  if getR m 17 = 1 then (if m.out.length = 10000 then (m, 6) else (nx { m with out := m.out ++ [getR m 10 % 256] } (m.pc + 4), 0))
  else if getR m 17 = 2 then (match m.inp with
    | [] => (nx { m with regs := m.regs.set 10 4294967295 } (m.pc + 4), 0)
    | b :: r => (nx { m with regs := m.regs.set 10 b, inp := r } (m.pc + 4), 0))
  else if getR m 17 = 3 then ({ m with fin := 1, value := getR m 10 }, 0)
  else if getR m 17 = 4 then ({ m with fin := 3, value := 0 }, 0)
  else (m, 5)
def doI (m : Mac) (i : Ins) : Mac × Int :=
  if i.op ≤ 18 then (nx (setR m i.d (alu i.op (getR m i.s) (getR m i.t)).1) (m.pc + 4), 0)
  else if i.op ≤ 27 then (nx (setR m i.d (alu (immOp i.op) (getR m i.s) i.n).1) (m.pc + 4), 0)
  else if i.op ≤ 32 then (if mflt m (ldK i.op) (getR m i.s + i.n) ≠ 0 then (m, mflt m (ldK i.op) (getR m i.s + i.n)) else (nx (setR m i.d (ldW m (ldK i.op) (getR m i.s + i.n))) (m.pc + 4), 0))
  else if i.op = 33 then (nx (setR m i.d (m.pc + 4)) (getR m i.s + i.n - (getR m i.s + i.n) % 2), 0)
  else if i.op ≤ 36 then (if mflt m (stK i.op) (getR m i.s + i.n) ≠ 0 then (m, mflt m (stK i.op) (getR m i.s + i.n)) else (nx (stM m (stK i.op) (getR m i.s + i.n) (getR m i.t)) (m.pc + 4), 0))
  else if i.op ≤ 42 then (nx m (if taken i.op (getR m i.s) (getR m i.t) then m.pc + i.n else m.pc + 4), 0)
  else if i.op = 43 then (nx (setR m i.d (i.n * 4096)) (m.pc + 4), 0)
  else if i.op = 44 then (nx (setR m i.d (m.pc + i.n * 4096)) (m.pc + 4), 0)
  else if i.op = 45 then (nx (setR m i.d (m.pc + 4)) (m.pc + i.n), 0)
  else if i.op = 47 then (m, 5)
  else ecl m
/-- A step and its fault. -/
def stp (m : Mac) : Mac × Int :=
  if isPc m.code.length m.pc = true then (match ins (m.code.getD ((m.pc - 65536) / 4).toNat 0) with
    | none => (m, 2)
    | some i => doI m i) else (m, 1)
def step1 (m : Mac) : Mac :=
  let r := stp { m with steps := m.steps + 1 }
  if r.2 ≠ 0 then { r.1 with fin := 2, value := r.2 } else r.1
def goes (m : Mac) : Bool := decide (m.fin = 0 ∧ m.steps < 1000000)
def runN : Nat → Mac → Mac
  | 0, m => m
  | k + 1, m => if goes m then runN k (step1 m) else m
def runM (m : Mac) (fuel : Int) : Mac := if mok m then runN fuel.toNat m else m
def Wds (l : List Int) : Prop := ∀ x ∈ l, 0 ≤ x ∧ x ≤ 4294967295
structure Ok (m : Mac) : Prop where
  c0 : 1 ≤ m.code.length
  c1 : m.code.length ≤ 16384
  cw : Wds m.code
  r0 : m.regs.length = 32
  rw : Wds m.regs
  rz : m.regs.getD 0 0 = 0
  p0 : 0 ≤ m.pc
  p1 : m.pc ≤ 4294967295
  d1 : m.data.length ≤ 65536
  s1 : m.stack.length ≤ 65536
  s2 : m.stack.length % 16 = 0
  i1 : m.inp.length ≤ 10000
  o1 : m.out.length ≤ 10000
  db : Byt m.data
  sb : Byt m.stack
  ib : Byt m.inp
  ob : Byt m.out
  t0 : 0 ≤ m.steps
  t1 : m.steps ≤ 1000000
  e0 : 0 ≤ m.fin
  e1 : m.fin ≤ 3
  v0 : 0 ≤ m.value
  v1 : m.value ≤ 4294967295
theorem isW_iff {l : List Int} : l.all isW = true ↔ Wds l := by
  unfold isW Wds
  simp only [List.all_eq_true, decide_eq_true_eq]
theorem ok_of {m : Mac} (h : mok m = true) (db : Byt m.data) (sb : Byt m.stack) (ib : Byt m.inp) (ob : Byt m.out) : Ok m := by
  unfold mok codeOk stackOk at h
  simp only [Bool.and_eq_true, decide_eq_true_eq, isW_iff] at h
  unfold isW at h
  simp only [decide_eq_true_eq] at h
  obtain ⟨⟨⟨a1, a2⟩, a3⟩, b1, ⟨c1, c2, c3⟩, ⟨p0, p1⟩, r0, r1, r2, i1, o1, ⟨t0, t1⟩, ⟨e0, e1⟩, v0, v1⟩ := h
  exact ⟨a1, a2, a3, r0, r1, r2, p0, p1, b1, by omega, by omega, i1, o1, db, sb, ib, ob, t0, t1, e0, e1, v0, v1⟩
theorem Ok.mok {m : Mac} (h : Ok m) : mok m = true := by
  unfold Go.Proofs.Ythndggachjdkfaa.mok codeOk stackOk
  simp only [Bool.and_eq_true, decide_eq_true_eq, isW_iff]
  unfold isW
  simp only [decide_eq_true_eq]
  have s1 := h.s1
  have s2 := h.s2
  exact ⟨⟨⟨h.c0, h.c1⟩, h.cw⟩, h.d1, ⟨by omega, by omega, by omega⟩, ⟨h.p0, h.p1⟩, h.r0, h.rw, h.rz, h.i1, h.o1, ⟨h.t0, h.t1⟩, ⟨h.e0, h.e1⟩, h.v0, h.v1⟩
theorem Wds.getD {l : List Int} (h : Wds l) (i : Nat) : 0 ≤ l.getD i 0 ∧ l.getD i 0 ≤ 4294967295 := by
  rw [List.getD_eq_getElem?_getD]
  cases e : l[i]? with
  | none => simp
  | some x => exact h x (List.mem_of_getElem? e)
theorem Wds.set {l : List Int} (h : Wds l) (i : Nat) {v : Int} (v0 : 0 ≤ v) (v1 : v ≤ 4294967295) : Wds (l.set i v) := fun x hx => by
  rcases List.mem_or_eq_of_mem_set hx with h1 | rfl
  · exact h x h1
  · exact ⟨v0, v1⟩
theorem set_z {l : List Int} {i : Nat} (hi : i ≠ 0) (v : Int) : (l.set i v).getD 0 0 = l.getD 0 0 := by
  simp only [List.getD_eq_getElem?_getD]
  rw [List.getElem?_set_ne hi]
theorem Ok.reg {m : Mac} (h : Ok m) (i : Int) : 0 ≤ getR m i ∧ getR m i ≤ 4294967295 := h.rw.getD _
theorem nar_range (k b : Int) : 0 ≤ (nar k b).1 ∧ (nar k b).1 ≤ 4294967295 := by
  unfold nar
  split
  · dsimp only; omega
  split
  · dsimp only; omega
  split
  · dsimp only; omega
  split
  · dsimp only; omega
  split
  · dsimp only; omega
  · dsimp only; omega
theorem wr_byt {l : List Int} (h : Byt l) (p : Nat) (w : Int) : ∀ k, Byt (wr l p w k)
  | 0 => h
  | k + 1 => fun x hx => by
    unfold wr at hx
    rcases List.mem_or_eq_of_mem_set hx with h1 | rfl
    · exact wr_byt h p w k x h1
    · omega
theorem Ok.setR {m : Mac} (h : Ok m) (d v : Int) (hd : 0 ≤ d) : Ok (setR m d v) := by
  unfold Go.Proofs.Ythndggachjdkfaa.setR
  by_cases hd0 : d = 0
  · have e : rset m.regs d v = m.regs := if_pos hd0
    rw [e]
    exact h
  · have e : rset m.regs d v = m.regs.set d.toNat (v % 4294967296) := if_neg hd0
    rw [e]
    exact { h with r0 := by simpa using h.r0, rw := h.rw.set _ (by omega) (by omega), rz := (set_z (by omega) _).trans h.rz }
theorem Ok.nx {m : Mac} (h : Ok m) (p : Int) : Ok (nx m p) := { h with p0 := by show 0 ≤ p % 4294967296; omega, p1 := by show p % 4294967296 ≤ _; omega }
theorem Ok.stM {m : Mac} (h : Ok m) (kd a w : Int) : Ok (stM m kd a w) := by
  unfold Go.Proofs.Ythndggachjdkfaa.stM
  split
  · exact h
  · split
    · exact { h with d1 := by rw [wr_len]; exact h.d1, db := wr_byt h.db _ _ _ }
    · exact { h with s1 := by rw [wr_len]; exact h.s1, s2 := by rw [wr_len]; exact h.s2, sb := wr_byt h.sb _ _ _ }
theorem Ok.regs {m : Mac} (h : Ok m) (i : Nat) (hi : i ≠ 0) (v : Int) (v0 : 0 ≤ v) (v1 : v ≤ 4294967295) : Ok { m with regs := m.regs.set i v } :=
  { h with r0 := by simpa using h.r0, rw := h.rw.set i v0 v1, rz := (set_z hi v).trans h.rz }
theorem Ok.outs {m : Mac} (h : Ok m) (hl : m.out.length ≠ 10000) (v : Int) (v0 : 0 ≤ v) (v1 : v ≤ 255) : Ok { m with out := m.out ++ [v] } :=
  { h with
    o1 := by have := h.o1; simp; omega
    ob := fun x hx => by
      rcases List.mem_append.mp hx with h1 | h1
      · exact h.ob x h1
      · simp at h1
        subst h1
        exact ⟨v0, v1⟩ }
theorem Ok.ins {m : Mac} (h : Ok m) {b : Int} {r : List Int} (e : m.inp = b :: r) : Ok { m with inp := r } :=
  { h with
    i1 := by have := h.i1; rw [e] at this; simp at this; show r.length ≤ _; omega
    ib := fun x hx => h.ib x (by rw [e]; exact List.mem_cons_of_mem _ hx) }
theorem Ok.fins {m : Mac} (h : Ok m) (f v : Int) (f0 : 0 ≤ f) (f1 : f ≤ 3) (v0 : 0 ≤ v) (v1 : v ≤ 4294967295) : Ok { m with fin := f, value := v } :=
  { h with e0 := f0, e1 := f1, v0 := v0, v1 := v1 }
theorem Ok.ecl {m : Mac} (h : Ok m) : Ok (ecl m).1 := by
  have r := h.reg 10
  unfold Go.Proofs.Ythndggachjdkfaa.ecl
  split
  · split
    · exact h
    · rename_i hl
      exact (h.outs hl _ (by omega) (by omega)).nx _
  split
  · cases e : m.inp with
    | nil =>
      have := (h.regs 10 (by decide) 4294967295 (by decide) (by decide)).nx (m.pc + 4)
      first
      | exact this
      | (rw [e] at this; exact this)
    | cons b r' =>
      have hb := h.ib b (by rw [e]; simp)
      exact ((h.ins e).regs 10 (by decide) b (by omega) (by omega)).nx _
  split
  · exact h.fins 1 _ (by decide) (by decide) r.1 r.2
  split
  · exact h.fins 3 0 (by decide) (by decide) (by decide) (by decide)
  · exact h
theorem iok_d {op d s t n : Int} (h : iok op d s t n = true) : (0 ≤ d ∧ d ≤ 31) ∧ (0 ≤ s ∧ s ≤ 31) ∧ (0 ≤ t ∧ t ≤ 31) ∧ 1 ≤ op ∧ op ≤ 47 ∧ -1048576 ≤ n ∧ n ≤ 1048575 := by
  unfold iok at h
  simp only [decide_eq_true_eq] at h
  have hf := frm_cases op
  have hr := frm_range op h.1
  refine ⟨h.2.1, h.2.2.1, h.2.2.2.1, hr.1, hr.2, ?_⟩
  omega
theorem Ok.doI {m : Mac} (h : Ok m) {i : Ins} (hi : iok i.op i.d i.s i.t i.n = true) : Ok (doI m i).1 := by
  have ⟨a, _⟩ := iok_d hi
  unfold Go.Proofs.Ythndggachjdkfaa.doI
  split
  · exact (h.setR _ _ a.1).nx _
  split
  · exact (h.setR _ _ a.1).nx _
  split
  · split
    · exact h
    · exact (h.setR _ _ a.1).nx _
  split
  · exact (h.setR _ _ a.1).nx _
  split
  · split
    · exact h
    · exact (h.stM _ _ _).nx _
  split
  · exact h.nx _
  split
  · exact (h.setR _ _ a.1).nx _
  split
  · exact (h.setR _ _ a.1).nx _
  split
  · exact (h.setR _ _ a.1).nx _
  split
  · exact h
  · exact h.ecl
theorem Ok.stp {m : Mac} (h : Ok m) : Ok (stp m).1 := by
  unfold Go.Proofs.Ythndggachjdkfaa.stp
  split
  · split
    · exact h
    · rename_i i hi
      exact h.doI (ins_ok hi)
  · exact h
theorem flt_range (d s : Nat) (kd a : Int) : 0 ≤ flt d s kd a ∧ flt d s kd a ≤ 4 := by
  unfold flt
  split
  · omega
  · split <;> omega
theorem stp_flt (m : Mac) : 0 ≤ (stp m).2 ∧ (stp m).2 ≤ 6 := by
  have q1 := fun kd a => flt_range m.data.length m.stack.length kd a
  have he : 0 ≤ (ecl m).2 ∧ (ecl m).2 ≤ 6 := by
    unfold ecl
    split
    · split <;> (dsimp only; omega)
    split
    · split <;> (dsimp only; omega)
    split
    · dsimp only; omega
    split
    · dsimp only; omega
    · dsimp only; omega
  unfold stp
  split
  · split
    · dsimp only; omega
    · rename_i i hi
      unfold doI
      split
      · dsimp only; omega
      split
      · dsimp only; omega
      split
      · split
        · have := q1 (ldK i.op) (getR m i.s + i.n)
          unfold mflt
          dsimp only; omega
        · dsimp only; omega
      split
      · dsimp only; omega
      split
      · split
        · have := q1 (stK i.op) (getR m i.s + i.n)
          unfold mflt
          dsimp only; omega
        · dsimp only; omega
      split
      · dsimp only; omega
      split
      · dsimp only; omega
      split
      · dsimp only; omega
      split
      · dsimp only; omega
      split
      · dsimp only; omega
      · exact he
  · dsimp only; omega
theorem Ok.step1 {m : Mac} (h : Ok m) (hs : m.steps < 1000000) : Ok (step1 m) := by
  have h' : Ok { m with steps := m.steps + 1 } := { h with t0 := by have := h.t0; show 0 ≤ m.steps + 1; omega, t1 := by show m.steps + 1 ≤ _; omega }
  have hr := stp_flt { m with steps := m.steps + 1 }
  have hq := h'.stp
  unfold Go.Proofs.Ythndggachjdkfaa.step1
  dsimp only
  split
  · exact hq.fins 2 _ (by decide) (by decide) hr.1 (by omega)
  · exact hq
theorem Ok.runN {m : Mac} (h : Ok m) (k : Nat) : Ok (runN k m) := by
  induction k generalizing m with
  | zero => exact h
  | succ k ih =>
    unfold Go.Proofs.Ythndggachjdkfaa.runN
    split
    · rename_i hg
      unfold goes at hg
      simp only [decide_eq_true_eq] at hg
      exact ih (h.step1 hg.2)
    · exact h
/-- Running in two parts is running at once. -/
theorem runN_add (a b : Nat) (m : Mac) : runN b (runN a m) = runN (a + b) m := by
  induction a generalizing m with
  | zero => rw [Nat.zero_add]; rfl
  | succ a ih =>
    rw [show a + 1 + b = (a + b) + 1 by omega]
    by_cases hg : goes m = true
    · rw [runN, if_pos hg, ih, runN, if_pos hg]
    · rw [runN, if_neg hg, runN, if_neg hg]
      cases b with
      | zero => rfl
      | succ b => rw [runN, if_neg hg]
end Go.Proofs.Ythndggachjdkfaa
