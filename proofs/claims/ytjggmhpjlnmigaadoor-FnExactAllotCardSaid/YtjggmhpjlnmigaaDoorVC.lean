/- A small calculus for walks: a verification condition of a function's code, computed, and that it suffices. -/
import Derived.WalkKit
import Derived.Below
import Derived.Scope
import Derived.Laws.MakeOwn
import Derived.Laws.CopyRow
import Derived.Laws.Append
import Derived.Laws.Tables
import Derived.Laws.BytesString
import Derived.KernelRfl
import Derived.MapKept
import Derived.Laws.IdiomRangeMap
import Derived.CallsIn
import Derived.OrdersIn
import Derived.ControlIn
namespace Go.Proofs.YtjggmhpjlnmigaaDoor
open Go.RowKit
set_option linter.unusedVariables false
set_option linter.unusedSimpArgs false

abbrev Hp := Array Obj
abbrev Fr := List (Nat × Value)

def Fr.get : Fr → Nat → Option Value
  | [], _ => none
  | p :: r, t => match Nat.beq p.1 t with
    | true => some p.2
    | false => Fr.get r t

def Fr.ev (f : Fr) : Operand → Option Value
  | .tmp t => f.get t
  | .const v => some v
  | .global g => some (.pointer (some ⟨g, 0, none⟩))
  | .func i => some (.func (.func i) #[] #[])

/-! ### what the walk meets -/
structure EvIf (t : Bool) (A B : Prop) : Prop where
  yes : t = true → A
  no : t = false → B
structure EvNe (b : Int) (A : Prop) : Prop where
  ne : b ≠ 0
  out : A
structure EvGe (b : Int) (A : Prop) : Prop where
  ge : 0 ≤ b
  out : A
/-- an index -/
structure EvBnd (i : Int) (n : Nat) (A : Prop) : Prop where
  lo : 0 ≤ i
  hi : i < n
  out : A
structure EvIdx (a : Option Addr) (i : Int) (n : Nat) (K : Nat → Nat → Prop) : Prop where
  out : ∃ b o, a = some ⟨b, o, none⟩ ∧ 0 ≤ i ∧ i < n ∧ K b o
/-- bounds of a cut, least first -/
structure EvCut (l h m c : Int) (A : Prop) : Prop where
  b0 : 0 ≤ l
  b1 : l ≤ h
  b2 : h ≤ m
  b3 : m ≤ c
  out : A
/-- a sum of strings' sizes -/
structure EvLe (a b : Nat) (A : Prop) : Prop where
  le : a ≤ b
  out : A

/-! ### values, continued -/
def takeK : Nat → List Value → (List Value → Prop) → Prop
  | 0, _, K => K []
  | n + 1, x :: xs, K => takeK n xs fun r => K (x :: r)
  | _ + 1, [], _ => False
def dropK : Nat → List Value → (List Value → Prop) → Prop
  | 0, xs, K => K xs
  | n + 1, _ :: xs, K => dropK n xs K
  | _ + 1, [], _ => False
/-- the cells from off on replaced -/
def putK : List Value → Nat → List Value → (List Value → Prop) → Prop
  | xs, 0, [], K => K xs
  | _ :: xs, 0, v :: vs, K => putK xs 0 vs fun r => K (v :: r)
  | x :: xs, o + 1, vs, K => putK xs o vs fun r => K (x :: r)
  | [], 0, _ :: _, _ => False
  | [], _ + 1, _, _ => False
def nthK : Nat → List Value → (Value → Prop) → Prop
  | 0, x :: _, K => K x
  | n + 1, _ :: xs, K => nthK n xs K
  | _, [], _ => False
def evsK (f : Fr) : List Operand → (List Value → Prop) → Prop
  | [], K => K []
  | x :: xs, K => match f.ev x with
    | some v => evsK f xs fun r => K (v :: r)
    | none => False
def cellsK (v : Value) (K : List Value → Prop) : Prop :=
  match v with
  | .agg cs => K cs.toList
  | .bool b => K [.bool b]
  | .int k n => K [.int k n]
  | .string s => K [.string s]
  | .pointer a => K [.pointer a]
  | .slice a l c => K [.slice a l c]
  | .map r => K [.map r]
  | .func a b c => K [.func a b c]
  | .nilFunc => K [.nilFunc]
  | .iface t v => K [.iface t v]
  | .nilIface => K [.nilIface]
  | _ => False
def isAggD : TypeDesc → Bool
  | .struct _ => true
  | .array _ _ => true
  | _ => false

/-! ### operations that do not look into memory -/
def vInt (op : BinOp) (k : IntKind) (a : Int) (k' : IntKind) (b : Int) (K : Value → Prop) : Prop :=
  match op with
  | .shl => EvGe b (K (.int k (k.wrap (a * 2 ^ (min b.toNat k.bits)))))
  | .shr => EvGe b (K (.int k (a / 2 ^ (min b.toNat k.bits))))
  | _ => if k = k' then
      match op with
      | .add => K (.int k (k.wrap (a + b)))
      | .sub => K (.int k (k.wrap (a - b)))
      | .mul => K (.int k (k.wrap (a * b)))
      | .quo => EvNe b (K (.int k (k.wrap (a.tdiv b))))
      | .rem => EvNe b (K (.int k (a.tmod b)))
      | .and => K (.int k (bits .and k a b))
      | .or => K (.int k (bits .or k a b))
      | .xor => K (.int k (bits .xor k a b))
      | .andNot => K (.int k (bits .andNot k a b))
      | .eql => K (.bool (a == b))
      | .neq => K (.bool (a != b))
      | .lss => K (.bool (decide (a < b)))
      | .leq => K (.bool (decide (a ≤ b)))
      | .gtr => K (.bool (decide (a > b)))
      | .geq => K (.bool (decide (a ≥ b)))
      | _ => False
    else False
def vStr (op : BinOp) (a b : ByteArray) (K : Value → Prop) : Prop :=
  match op with
  | .add => EvLe (a.size + b.size) 9223372036854775807 (K (.string (a ++ b)))
  | .eql => K (.bool (a.toList == b.toList))
  | .neq => K (.bool (!(a.toList == b.toList)))
  | .lss => K (.bool (Op.bytesLess a.toList b.toList))
  | _ => False
/-- '==' as the model has it, at values that the calculus does not take apart -/
structure EvEql (P : Program) (t : TypeId) (x y : Operand) (a b : Value) (K : Bool → Prop) : Prop where
  out : ∃ r : Bool, (∀ op w, (eqGuard op t x y a b).run P w = .ok () w) ∧ (∀ w, (Op.equal t a b).run P w = .ok r w) ∧ K r
def vBin (P : Program) (op : BinOp) (t : TypeId) (x y : Operand) (a b : Value) (K : Value → Prop) : Prop :=
  match a, b with
  | .int k a, .int k' b => vInt op k a k' b K
  | .string a, .string b => vStr op a b K
  | .bool a, .bool b => match P.underlying t with
    | some .bool => match op with
      | .eql => K (.bool (a == b))
      | .neq => K (.bool (!(a == b)))
      | _ => False
    | _ => False
  | .slice a l c, .slice a' l' c' => match P.underlying t, a' with
    | some (.slice _), none => match op with
      | .eql => K (.bool a.isNone)
      | .neq => K (.bool (!a.isNone))
      | _ => False
    | _, _ => False
  | .pointer a, .pointer a' => match P.underlying t, a' with
    | some (.pointer _), none => match op with
      | .eql => K (.bool a.isNone)
      | .neq => K (.bool (!a.isNone))
      | _ => False
    | _, _ => False
  | .agg a, .agg b => match op with
    | .eql => EvEql P t x y (.agg a) (.agg b) fun r => K (.bool r)
    | .neq => EvEql P t x y (.agg a) (.agg b) fun r => K (.bool (!r))
    | _ => False
  | _, _ => False
/-- size, bytes and zero of a type -/
def infoK (P : Program) (t : TypeId) (K : Nat → Nat → Option Value → Prop) : Prop :=
  match P.info? t with
  | some ⟨_, _, size, bytes, _, _, _, zero, _, _⟩ => K size bytes zero
  | none => False
/-- type and place of a field -/
def fldK (fields : Array Field) (i : Nat) (K : TypeId → Nat → Prop) : Prop :=
  match fields[i]? with
  | some ⟨_, ty, off, _, _, _, _⟩ => K ty off
  | none => False
def partK (P : Program) (t : TypeId) (cs : List Value) (off : Nat) (K : Value → Prop) : Prop :=
  match P.underlying t with
  | none => False
  | some d => match isAggD d with
    | true => infoK P t fun size _ _ => dropK off cs fun r => takeK size r fun l => K (.agg l.toArray)
    | false => nthK off cs K
def allInfo (P : Program) : List Field → Bool
  | [] => true
  | f :: r => match P.info? f.type with
    | some _ => allInfo P r
    | none => false
/-- the parts of a struct's value, laid over the cells -/
def buildK (P : Program) (fields : Array Field) (f : Fr) (cells : List Value) : List (Nat × Operand) → (List Value → Prop) → Prop
  | [], K => K cells
  | (i, x) :: rest, K => match f.ev x with
    | some v => fldK fields i fun ty off => infoK P ty fun size _ _ => cellsK v fun cs => match Nat.beq cs.length size with
      | true => putK cells off cs fun cells' => buildK P fields f cells' rest K
      | false => False
    | none => False
def pairsK (f : Fr) : List (Nat × Operand) → (List (Nat × Value) → Prop) → Prop
  | [], K => K []
  | (i, x) :: r, K => match f.ev x with
    | some v => pairsK f r fun l => K ((i, v) :: l)
    | none => False

def VPure (P : Program) (op : Op) (f : Fr) (K : Value → Prop) : Prop :=
  match op with
  | .move x => match f.ev x with | some v => K v | none => False
  | .assign x => match f.ev x with | some v => K v | none => False
  | .pick c a b => match f.ev c, f.ev a, f.ev b with
    | some (.bool t), some x, some y => EvIf t (K x) (K y)
    | _, _, _ => False
  | .binOp op t x y _ => match f.ev x, f.ev y with
    | some a, some b => vBin P op t x y a b K
    | _, _ => False
  | .unOp op _ x => match op, f.ev x with
    | .neg, some (.int k n) => K (.int k (k.wrap (0 - n)))
    | .not, some (.bool b) => K (.bool (!b))
    | .xor, some (.int k n) => K (.int k (bits .xor k (if k.signed then -1 else k.max) n))
    | _, _ => False
  | .nilCheck x => match f.ev x with
    | some (.pointer (some a)) => K (.pointer (some a))
    | some (.func (.func i) a b) => K (.func (.func i) a b)
    | _ => False
  | .convert src dst x => match P.underlying src, P.underlying dst, f.ev x with
    | some _, some (.int k), some (.int _ n) => K (.int k (k.wrap n))
    | some .string, some .string, some (.string s) => K (.string s)
    | _, _, _ => False
  | .extract t i => match f.ev t with
    | some (.tuple vs) => nthK i vs.toList K
    | _ => False
  | .field t x i => match P.underlying t, f.ev x with
    | some (.struct fields), some (.agg cs) => fldK fields i fun ty off => partK P ty cs.toList off K
    | _, _ => False
  | .fieldAddr t x i => match P.underlying t, f.ev x with
    | some (.struct fields), some (.pointer (some ⟨b, o, none⟩)) => fldK fields i fun ty off => infoK P ty fun size _ _ => match Nat.beq size 0 with
      | true => False
      | false => match Nat.beq off 0 with
        | true => K (.pointer (some ⟨b, o, none⟩))
        | false => K (.pointer (some ⟨b, o + off, none⟩))
    | _, _ => False
  | .indexAddr t x ix => match P.underlying t, f.ev x, f.ev ix with
    | some (.slice e), some (.slice a len _), some (.int _ i) => infoK P e fun size _ _ => EvIdx a i len fun b o => K (.pointer (some ⟨b, o + i.toNat * size, none⟩))
    | some (.array n e), some (.pointer (some ⟨b, o, none⟩)), some (.int _ i) => infoK P e fun size _ _ => EvBnd i n (K (.pointer (some ⟨b, o + i.toNat * size, none⟩)))
    | _, _, _ => False
  | .index t x ix => match P.underlying t, f.ev x, f.ev ix with
    | some .string, some (.string s), some (.int _ i) => EvBnd i s.size (K (.int .u8 ((s.get! i.toNat).toNat : Int)))
    | _, _, _ => False
  | .build t parts => match P.underlying t with
    | some (.struct fields) => infoK P t fun _ _ zero => match zero with
      | some z => match allInfo P fields.toList with
        | true => cellsK z fun cs => buildK P fields f cs parts.toList fun l => K (.agg l.toArray)
        | false => False
      | none => False
    | _ => False
  | .slice t x lo hi mx => match P.underlying t, f.ev x with
    | some .string, some (.string s) => match mx with
      | some _ => False
      | none => optK lo 0 fun l => optK hi s.size fun h => EvCut l h s.size s.size (K (.string (s.extract l.toNat h.toNat)))
    | some (.slice e), some (.slice a len cap) => infoK P e fun size _ _ => match !mx.isSome || hi.isSome with
      | true => optK lo 0 fun l => optK hi len fun h => optK mx cap fun m =>
        EvCut l h m cap (K (.slice (if m.toNat = l.toNat then a else a.map (·.add (l.toNat * size))) (h.toNat - l.toNat) (m.toNat - l.toNat)))
      | false => False
    | _, _ => False
  | .makeFunc fn first cap => evsK f first.toList fun a => evsK f cap.toList fun b => K (.func fn a.toArray b.toArray)
  | .call c => match c.callee, c.args.toList with
    | .builtin .len, [x] => match c.argTypes[0]? with
      | some t => match P.underlying t, f.ev x with
        | some .string, some (.string s) => K (.int .i64 (s.size : Int))
        | some (.slice _), some (.slice _ n _) => K (.int .i64 (n : Int))
        | _, _ => False
      | none => False
    | .builtin .cap, [x] => match c.argTypes[0]? with
      | some t => match P.underlying t, f.ev x with
        | some (.slice _), some (.slice _ _ n) => K (.int .i64 (n : Int))
        | _, _ => False
      | none => False
    | _, _ => False
  | _ => False
where
  optK (o : Option Operand) (d : Nat) (K : Int → Prop) : Prop :=
    match o with
    | none => K (d : Int)
    | some x => match f.ev x with
      | some (.int _ n) => K n
      | _ => False

/-! ### they suffice -/
section
variable {P : Program}
theorem nthK_ok : ∀ {n : Nat} {l : List Value} {K : Value → Prop}, nthK n l K → ∃ v, l[n]? = some v ∧ K v
  | 0, _ :: _, _, h => ⟨_, rfl, h⟩
  | n + 1, _ :: xs, _, h => nthK_ok (n := n) (l := xs) h
  | 0, [], _, h => h.elim
  | _ + 1, [], _, h => h.elim
theorem takeK_ok : ∀ {n : Nat} {l : List Value} {K : List Value → Prop}, takeK n l K → n ≤ l.length ∧ K (l.take n)
  | 0, _, _, h => ⟨Nat.zero_le _, h⟩
  | n + 1, x :: xs, _, h => by
    obtain ⟨a, b⟩ := takeK_ok (n := n) (l := xs) h
    exact ⟨by simpa using a, b⟩
  | _ + 1, [], _, h => h.elim
theorem dropK_ok : ∀ {n : Nat} {l : List Value} {K : List Value → Prop}, dropK n l K → n ≤ l.length ∧ K (l.drop n)
  | 0, _, _, h => ⟨Nat.zero_le _, h⟩
  | n + 1, x :: xs, _, h => by
    obtain ⟨a, b⟩ := dropK_ok (n := n) (l := xs) h
    exact ⟨by simpa using a, b⟩
  | _ + 1, [], _, h => h.elim
/-- cells with others laid over them -/
def ovr (l : List Value) (o : Nat) (vs : List Value) : List Value := l.take o ++ vs ++ l.drop (o + vs.length)
theorem putK_ok : ∀ {l : List Value} {o : Nat} {vs : List Value} {K : List Value → Prop}, putK l o vs K → o + vs.length ≤ l.length ∧ K (ovr l o vs)
  | xs, 0, [], _, h => ⟨by simp, by have h' : _ := h; unfold putK at h'; simpa [ovr] using h'⟩
  | x :: xs, 0, v :: vs, _, h => by
    obtain ⟨a, b⟩ := putK_ok (l := xs) (o := 0) (vs := vs) h
    refine ⟨by simp at a ⊢; omega, ?_⟩
    simpa [ovr, Nat.add_comm] using b
  | x :: xs, o + 1, vs, _, h => by
    obtain ⟨a, b⟩ := putK_ok (l := xs) (o := o) (vs := vs) h
    refine ⟨by simp at a ⊢; omega, ?_⟩
    have e : o + 1 + vs.length = (o + vs.length) + 1 := by omega
    simpa [ovr, e] using b
  | [], 0, _ :: _, _, h => h.elim
  | [], _ + 1, _, _, h => by cases h
theorem ev_map {f : Fr} {ρ : Operand → Value} (hρ : ∀ x v, f.ev x = some v → ρ x = v) : ∀ {xs : List Operand} {K : List Value → Prop}, evsK f xs K → K (xs.map ρ)
  | [], _, h => h
  | x :: xs, K, h => by
    simp only [evsK] at h
    cases hx : f.ev x with
    | none => simp [hx] at h
    | some v =>
      simp only [hx] at h
      have := ev_map hρ (xs := xs) h
      simpa [hρ x v hx] using this
theorem pairs_map {f : Fr} {ρ : Operand → Value} (hρ : ∀ x v, f.ev x = some v → ρ x = v) : ∀ {xs : List (Nat × Operand)} {K : List (Nat × Value) → Prop}, pairsK f xs K → K (xs.map fun (i, x) => (i, ρ x))
  | [], _, h => h
  | (i, x) :: xs, K, h => by
    simp only [pairsK] at h
    cases hx : f.ev x with
    | none => simp [hx] at h
    | some v =>
      simp only [hx] at h
      have := pairs_map hρ (xs := xs) h
      simpa [hρ x v hx] using this
theorem cellsK_ok {v : Value} {K : List Value → Prop} (h : cellsK v K) : K v.cells.toList := by
  cases v <;> first | exact h | exact h.elim
theorem infoK_ok {t : TypeId} {K : Nat → Nat → Option Value → Prop} (h : infoK P t K) : ∃ i, P.info? t = some i ∧ K i.size i.bytes i.zero := by
  unfold infoK at h
  split at h
  · rename_i e; exact ⟨_, e, h⟩
  · exact h.elim
theorem fldK_ok {fields : Array Field} {i : Nat} {K : TypeId → Nat → Prop} (h : fldK fields i K) : ∃ fd, fields[i]? = some fd ∧ K fd.type fd.offset := by
  unfold fldK at h
  split at h
  · rename_i e; exact ⟨_, e, h⟩
  · exact h.elim
theorem run_under {t : TypeId} {d : TypeDesc} (h : P.underlying t = some d) (w : World) : (underlying t).run P w = .ok d w := run_underlying h w
theorem run_info {t : TypeId} {i : TypeInfo} (h : P.info? t = some i) (w : World) : (typeInfo t).run P w = .ok i w := by simp [typeInfo, h]
theorem run_sizeOf {t : TypeId} {i : TypeInfo} (h : P.info? t = some i) (w : World) : (sizeOf t).run P w = .ok i.size w := by simp [sizeOf, typeInfo, h]
theorem run_isAgg {t : TypeId} {d : TypeDesc} (h : P.underlying t = some d) (w : World) : (isAgg t).run P w = .ok (isAggD d) w := by
  cases d <;> simp [isAgg, run_under h, isAggD]
theorem vInt_ok {op : BinOp} {t : TypeId} {k k' : IntKind} {a b : Int} {K : Value → Prop} (h : vInt op k a k' b K) :
    ∃ v, (∀ w, (binOp op t (.int k a) (.int k' b)).run P w = .ok v w) ∧ K v := by
  have hp : ∀ n : Nat, (0 : Int) ≤ 2 ^ n := fun n => Int.pow_nonneg (by decide)
  cases op
  case shl =>
    obtain ⟨h0, h1⟩ := h
    exact ⟨_, fun w => by simp only [binOp, Op.shift, if_neg (Int.not_lt.mpr h0)]; rfl, h1⟩
  case shr =>
    obtain ⟨h0, h1⟩ := h
    refine ⟨_, fun w => ?_, h1⟩
    simp only [binOp, Op.shift, if_neg (Int.not_lt.mpr h0), Int.fdiv_eq_ediv_of_nonneg _ (hp _)]
    rfl
  all_goals
    unfold vInt at h
    by_cases e : k = k'
    case neg => simp [e] at h
    subst e
    simp only [if_true] at h
  all_goals first
    | exact ⟨_, fun w => by simp only [binOp_add, binOp_sub, binOp_mul, binOp_and, binOp_or, binOp_xor, binOp_andNot, binOp_eql, binOp_neq, binOp_lss, binOp_leq, binOp_gtr, binOp_geq]; rfl, h⟩
    | (obtain ⟨h0, h1⟩ := h; exact ⟨_, fun w => by simp only [binOp_quo, Op.intDiv, if_neg h0]; rfl, h1⟩)
    | (obtain ⟨h0, h1⟩ := h; exact ⟨_, fun w => by simp only [binOp_rem, Op.intDiv, if_neg h0]; rfl, h1⟩)
end
section
variable {P : Program}
theorem partK_ok {t : TypeId} {cs : List Value} {off : Nat} {K : Value → Prop} (h : partK P t cs off K) : ∃ v, (∀ w, (part t cs.toArray off).run P w = .ok v w) ∧ K v := by
  unfold partK at h
  cases hu : P.underlying t with
  | none => simp [hu] at h
  | some d =>
    simp only [hu] at h
    cases ha : isAggD d with
    | true =>
      simp only [ha] at h
      obtain ⟨i, hi, h⟩ := infoK_ok h
      obtain ⟨a, h⟩ := dropK_ok h
      obtain ⟨b, h⟩ := takeK_ok h
      refine ⟨_, fun w => ?_, h⟩
      simp only [part, Sem.run_bind, run_isAgg hu, ha, Result.andThen_ok, if_true, run_sizeOf hi, Sem.run_pure]
      simp [List.take_drop, Nat.add_comm]
    | false =>
      simp only [ha] at h
      obtain ⟨v, a, h⟩ := nthK_ok h
      refine ⟨v, fun w => ?_, h⟩
      simp only [part, Sem.run_bind, run_isAgg hu, ha, Result.andThen_ok, Bool.false_eq_true, if_false]
      simp [a]
theorem foldl_ovr (off : Nat) : ∀ (vs : List Value) (k : Nat) (cells : Array Value), off + k + vs.length ≤ cells.size →
    ((vs.zipIdx k).foldl (fun cs (p : Value × Nat) => cs.setIfInBounds (off + p.2) p.1) cells).toList = ovr cells.toList (off + k) vs
  | [], k, cells, _ => by simp [ovr]
  | v :: vs, k, cells, h => by
    simp only [List.zipIdx_cons, List.foldl_cons]
    rw [foldl_ovr off vs (k + 1) _ (by simp at h ⊢; omega)]
    simp only [List.length_cons] at h
    unfold ovr
    simp only [Array.toList_setIfInBounds]
    apply List.ext_getElem?
    intro i
    simp only [List.append_assoc, List.getElem?_append, List.length_take, List.length_set, Array.length_toList, List.length_cons]
    rw [Nat.min_eq_left (by omega), Nat.min_eq_left (by omega)]
    by_cases h1 : i < off + k
    · rw [if_pos (by omega), if_pos h1, List.getElem?_take_of_lt (by omega), List.getElem?_take_of_lt h1, List.getElem?_set_ne (by omega)]
    · rw [if_neg h1]
      by_cases h2 : i = off + k
      · subst h2
        rw [if_pos (by omega), if_pos (by omega), List.getElem?_take_of_lt (by omega), List.getElem?_set_self (by simp; omega)]
        simp
      · rw [if_neg (by omega)]
        by_cases h3 : i - (off + k) < vs.length + 1
        · rw [if_pos (by omega), if_pos h3]
          have : i - (off + k) = (i - (off + (k + 1))) + 1 := by omega
          rw [this]
          simp
        · rw [if_neg (by omega), if_neg h3, List.getElem?_drop, List.getElem?_drop, List.getElem?_set_ne (by omega)]
          congr 1
          omega
theorem places_ok : ∀ (fs : List Field), allInfo P fs = true → ∃ pl, fs.mapM (fun f => (P.info? f.type).map fun i => (f.offset, i.size)) = some pl ∧ ∀ (i : Nat) (fd : Field) (inf : TypeInfo), fs[i]? = some fd → P.info? fd.type = some inf → pl[i]? = some (fd.offset, inf.size)
  | [], _ => ⟨[], rfl, fun i fd inf h => by simp at h⟩
  | f :: r, h => by
    simp only [allInfo] at h
    cases hf : P.info? f.type with
    | none => simp [hf] at h
    | some inf =>
      simp only [hf] at h
      obtain ⟨pl, h1, h2⟩ := places_ok r h
      refine ⟨(f.offset, inf.size) :: pl, by simp [List.mapM_cons, hf, h1], fun i fd inf' hi hi' => ?_⟩
      cases i with
      | zero => simp at hi; subst hi; rw [hf] at hi'; cases hi'; rfl
      | succ i => exact h2 i fd inf' (by simpa using hi) hi'
theorem buildK_ok {fields : Array Field} {pl : List (Nat × Nat)} {f : Fr} {ρ : Operand → Value} (hρ : ∀ x v, f.ev x = some v → ρ x = v)
    (hpl : ∀ (i : Nat) (fd : Field) (inf : TypeInfo), fields.toList[i]? = some fd → P.info? fd.type = some inf → pl[i]? = some (fd.offset, inf.size)) :
    ∀ {parts : List (Nat × Operand)} {cells : List Value} {K : List Value → Prop}, buildK P fields f cells parts K →
      ∃ l, Instr.fill (pl.toArray[·]?) cells.toArray (parts.map fun (i, x) => (i, ρ x)) = some (List.toArray l) ∧ K l
  | [], cells, K, h => ⟨cells, rfl, h⟩
  | (i, x) :: rest, cells, K, h => by
    simp only [buildK] at h
    cases hx : f.ev x with
    | none => simp [hx] at h
    | some v =>
      simp only [hx] at h
      obtain ⟨fd, hf, h⟩ := fldK_ok h
      obtain ⟨inf, hi, h⟩ := infoK_ok h
      have h := cellsK_ok h
      cases hb : Nat.beq v.cells.toList.length inf.size with
          | false => simp only [hb] at h
          | true =>
            simp only [hb] at h
            have hb := Nat.eq_of_beq_eq_true hb
            obtain ⟨a, h⟩ := putK_ok h
            obtain ⟨l, e, h⟩ := buildK_ok hρ hpl h
            refine ⟨l, ?_, h⟩
            have hp := hpl i fd inf (by simpa using hf) hi
            simp only [List.map_cons, Instr.fill, hρ x v hx]
            have hp' : pl.toArray[i]? = some (fd.offset, inf.size) := by simpa using hp
            rw [hp']
            simp only
            have hs : v.cells.size = inf.size := by simpa using hb
            have hlen : fd.offset + v.cells.size ≤ cells.length := by simpa using a
            rw [if_neg (by simp [hs]; omega)]
            rw [← e]
            congr 1
            apply Array.ext'
            rw [← Array.foldl_toList, Array.toList_zipIdx]
            exact foldl_ovr fd.offset v.cells.toList 0 cells.toArray (by simpa using hlen)
end
section
variable {P : Program}
theorem equal_succ (t : TypeId) (a b : Value) : ∃ d, Op.equal t a b = Op.equalIn (d + 1) t a b := ⟨9999, rfl⟩
theorem run_equal_bool {t : TypeId} (hu : P.underlying t = some .bool) (a b : Bool) (w : World) : (Op.equal t (.bool a) (.bool b)).run P w = .ok (a == b) w := by
  obtain ⟨d, e⟩ := equal_succ t (.bool a) (.bool b)
  rw [e]
  simp only [Op.equalIn, Sem.run_bind, run_under hu, Result.andThen_ok, Sem.run_pure]
theorem run_equal_snil {t e : TypeId} (hu : P.underlying t = some (.slice e)) (a : Option Addr) (l c l' c' : Nat) (w : World) : (Op.equal t (.slice a l c) (.slice none l' c')).run P w = .ok a.isNone w := by
  obtain ⟨d, e⟩ := equal_succ t (.slice a l c) (.slice none l' c')
  rw [e]
  cases a <;> simp only [Op.equalIn, Sem.run_bind, run_under hu, Result.andThen_ok, Sem.run_pure, Option.isNone]
theorem run_equal_pnil {t e : TypeId} (hu : P.underlying t = some (.pointer e)) (a : Option Addr) (w : World) : (Op.equal t (.pointer a) (.pointer none)).run P w = .ok a.isNone w := by
  obtain ⟨d, e⟩ := equal_succ t (.pointer a) (.pointer none)
  rw [e]
  cases a <;> simp only [Op.equalIn, Sem.run_bind, run_under hu, Result.andThen_ok, Sem.run_pure, Option.isNone]
theorem vBin_ok {op : BinOp} {t : TypeId} {x y : Operand} {a b : Value} {K : Value → Prop} (h : vBin P op t x y a b K) :
    ∃ v, (∀ w, (do eqGuard op t x y a b; binOp op t a b : Sem Value).run P w = .ok v w) ∧ K v := by
  cases a <;> cases b <;> simp only [vBin] at h
  case int.int k a k' b =>
    obtain ⟨v, e, h⟩ := vInt_ok (P := P) (t := t) h
    exact ⟨v, fun w => by simpa [eqGuard_at_int] using e w, h⟩
  case string.string a b =>
    cases op <;> simp only [vStr] at h
    case add =>
      obtain ⟨h0, h1⟩ := h
      exact ⟨_, fun w => by simp only [eqGuard_at_string, Sem.run_bind, Sem.run_pure, Result.andThen_ok, binOp, run_string_add_sum w a b h0], h1⟩
    all_goals exact ⟨_, fun w => by simp [eqGuard_at_string, binOp, Op.stringOp], h⟩
  case bool.bool a b =>
    cases hu : P.underlying t with
    | none => simp [hu] at h
    | some d =>
      cases d <;> simp only [hu] at h
      cases op <;> simp only at h
      all_goals exact ⟨_, fun w => by simp only [eqGuard_at_bool, binOp, Sem.run_bind, Sem.run_pure, Result.andThen_ok, run_equal_bool hu], h⟩
  case slice.slice a l c a' l' c' =>
    cases hu : P.underlying t with
    | none => simp [hu] at h
    | some d =>
      cases d <;> cases a' <;> simp only [hu] at h
      cases op <;> simp only at h
      all_goals
        exact ⟨_, fun w => by simp only [eqGuard_at_slice, binOp, Sem.run_bind, Sem.run_pure, Result.andThen_ok, run_equal_snil hu], h⟩
  case pointer.pointer a a' =>
    cases hu : P.underlying t with
    | none => simp [hu] at h
    | some d =>
      cases d <;> cases a' <;> simp only [hu] at h
      cases op <;> simp only at h
      all_goals
        exact ⟨_, fun w => by simp only [eqGuard_at_pointer, binOp, Sem.run_bind, Sem.run_pure, Result.andThen_ok, run_equal_pnil hu], h⟩
  case agg.agg a b =>
    cases op <;> simp only at h
    all_goals
      obtain ⟨r, h1, h2, h3⟩ := h
      exact ⟨_, fun w => by simp only [binOp, Sem.run_bind, h1, h2, Result.andThen_ok, Sem.run_pure], h3⟩
end
section
variable {P : Program}
def IsOpt (ρ : Operand → Value) (o : Option Operand) (d : Nat) (n : Int) : Prop :=
  match o with
  | none => n = d
  | some x => ∃ k, ρ x = .int k n
theorem optK_ok {f : Fr} {ρ : Operand → Value} (hρ : ∀ x v, f.ev x = some v → ρ x = v) {o : Option Operand} {d : Nat} {K : Int → Prop} (h : VPure.optK f o d K) :
    ∃ n, IsOpt ρ o d n ∧ K n := by
  unfold VPure.optK at h
  cases o with
  | none => exact ⟨_, rfl, h⟩
  | some x =>
    simp only at h
    split at h
    · rename_i k n hx
      exact ⟨n, ⟨k, hρ x _ hx⟩, h⟩
    · exact h.elim
theorem sliceBound_ok {k : IntKind} {n : Int} {y : Nat} {c : BoundsCode} (h0 : 0 ≤ n) (h1 : n ≤ y) (w : World) : (Instr.sliceBound (.int k n) y c).run P w = .ok n.toNat w := by
  simp [Instr.sliceBound, asIntOf, h0, h1]
theorem sliceBounds_ok {ρ : Operand → Value} {b : Bool} {lo hi mx : Option Operand} {len cap : Nat} (hlc : mx.isSome = true → hi.isSome = true) {l h m : Int}
    (hl : IsOpt ρ lo 0 l) (hh : IsOpt ρ hi len h) (hm : IsOpt ρ mx cap m) (b0 : 0 ≤ l) (b1 : l ≤ h) (b2 : h ≤ m) (b3 : m ≤ cap) (w : World) :
    (Instr.sliceBounds b len cap (lo.map ρ) (hi.map ρ) (mx.map ρ)).run P w = .ok (l.toNat, h.toNat, m.toNat) w := by
  have E : ∀ (o : Option Operand) (d : Nat) (n : Int), IsOpt ρ o d n → (o = none ∧ n = d) ∨ ∃ x k, o = some x ∧ ρ x = .int k n := by
    intro o d n h
    cases o with
    | none => exact .inl ⟨rfl, h⟩
    | some x => obtain ⟨k, h⟩ := h; exact .inr ⟨x, k, rfl, h⟩
  replace hl := E _ _ _ hl
  replace hh := E _ _ _ hh
  replace hm := E _ _ _ hm
  clear E
  rcases hl with ⟨e1, hl⟩ | ⟨x, kl, e1, hl⟩ <;> rcases hh with ⟨e2, hh⟩ | ⟨y, kh, e2, hh⟩ <;> rcases hm with ⟨e3, hm⟩ | ⟨z, km, e3, hm⟩ <;> subst e1 <;> subst e2 <;> subst e3 <;> try (simp at hlc; done)
  all_goals
    simp only [Instr.sliceBounds, Option.map_none, Option.map_some, Option.isSome_none, Option.isSome_some, Bool.false_eq_true, if_false, if_true, Sem.run_bind, Sem.run_pure, Result.andThen_ok, hl, hh, hm]
    repeat (first
      | rw [sliceBound_ok (k := _) (by omega) (by omega)]
      | simp only [Result.andThen_ok, Sem.run_pure, Int.toNat_natCast])
    try rfl
theorem vpure_ok {f : Fr} {ρ : Operand → Value} (hρ : ∀ x v, f.ev x = some v → ρ x = v) {o : Oper} {K : Value → Prop} (h : VPure P o.op f K) :
    ∃ v, (∀ w, (execOp ρ o).run P w = .ok (.value v) w) ∧ K v := by
  obtain ⟨dst, op, ty, pos, after, guard⟩ := o
  cases op <;> simp only [VPure] at h
  case move x =>
    cases hx : f.ev x with
    | none => simp [hx] at h
    | some v => simp only [hx] at h; exact ⟨v, fun w => by simp [execOp, hρ x v hx], h⟩
  case assign x =>
    cases hx : f.ev x with
    | none => simp [hx] at h
    | some v => simp only [hx] at h; exact ⟨v, fun w => by simp [execOp, hρ x v hx], h⟩
  case pick c a b =>
    split at h
    · rename_i t x y hc ha hb
      obtain ⟨h1, h2⟩ := h
      cases t with
      | true => exact ⟨x, fun w => by simp [execOp, hρ _ _ hc, hρ _ _ ha, hρ _ _ hb, asBool], h1 rfl⟩
      | false => exact ⟨y, fun w => by simp [execOp, hρ _ _ hc, hρ _ _ ha, hρ _ _ hb, asBool], h2 rfl⟩
    · exact h.elim
  case binOp op t x y yt =>
    split at h
    · rename_i a b hx hy
      obtain ⟨v, e, h⟩ := vBin_ok h
      refine ⟨v, fun w => ?_, h⟩
      have := e w
      simp only [execOp, Sem.run_bind, hρ _ _ hx, hρ _ _ hy] at this ⊢
      rw [this]
      rfl
    · exact h.elim
  case unOp op t x =>
    split at h
    · rename_i k n hx; exact ⟨_, fun w => by simp [execOp, hρ _ _ hx, Op.unary, Op.intArith], h⟩
    · rename_i b hx; exact ⟨_, fun w => by simp [execOp, hρ _ _ hx, Op.unary], h⟩
    · rename_i k n hx; exact ⟨_, fun w => by simp only [execOp, hρ _ _ hx, Op.unary, intBits_xor, Sem.run_bind, Sem.run_pure, Result.andThen_ok], h⟩
    · exact h.elim
  case nilCheck x =>
    split at h
    · rename_i a hx; exact ⟨_, fun w => by simp [execOp, hρ _ _ hx], h⟩
    · rename_i i a b hx; exact ⟨_, fun w => by simp [execOp, hρ _ _ hx], h⟩
    · exact h.elim
  case convert src dst x =>
    split at h
    · rename_i d k k' n hs hd hx
      refine ⟨_, fun w => ?_, h⟩
      simp only [execOp, hρ _ _ hx, convert, Sem.run_bind, run_under hs, run_under hd, Result.andThen_ok, Conv.intToInt, Sem.run_pure]
    · rename_i s hs hd hx
      refine ⟨_, fun w => ?_, h⟩
      simp only [execOp, hρ _ _ hx, convert, Sem.run_bind, run_under hs, run_under hd, Result.andThen_ok, Sem.run_pure]
    · exact h.elim
  case extract t i =>
    split at h
    · rename_i vs hx
      obtain ⟨v, e, h⟩ := nthK_ok h
      have e' : vs[i]? = some v := by simpa using e
      exact ⟨v, fun w => by simp [execOp, hρ _ _ hx, Instr.extract, e'], h⟩
    · exact h.elim
  case field t x i =>
    split at h
    · rename_i fields cs hu hx
      obtain ⟨fd, hf, h⟩ := fldK_ok h
      obtain ⟨v, e, h⟩ := partK_ok h
      refine ⟨v, fun w => ?_, h⟩
      have := e w
      simp only [execOp, hρ _ _ hx, Instr.field, Sem.run_bind, run_under hu, Result.andThen_ok, hf, asAgg, Sem.run_pure]
      rw [show (part fd.type cs fd.offset) = part fd.type cs.toList.toArray fd.offset by simp, this]
      rfl
    · exact h.elim
  case fieldAddr t x i =>
    split at h
    · rename_i fields b o hu hx
      obtain ⟨fd, hf, h⟩ := fldK_ok h
      obtain ⟨inf, hi, h⟩ := infoK_ok h
      split at h
      · exact h.elim
      · rename_i hz
        have hz : inf.size ≠ 0 := fun e => by rw [e] at hz; simp at hz
        split at h
        · rename_i ho
          have ho := Nat.eq_of_beq_eq_true ho
          refine ⟨_, fun w => ?_, h⟩
          simp [execOp, hρ _ _ hx, Instr.fieldAt, Sem.run_bind, run_under hu, hf, Instr.sureAddr, fieldPlace, run_sizeOf hi, hz, ho, Addr.add]
        · rename_i ho
          have ho : fd.offset ≠ 0 := fun e => by rw [e] at ho; simp at ho
          refine ⟨_, fun w => ?_, h⟩
          simp [execOp, hρ _ _ hx, Instr.fieldAt, Sem.run_bind, run_under hu, hf, Instr.sureAddr, fieldPlace, run_sizeOf hi, hz, ho, Addr.add]
    · exact h.elim
  case indexAddr t x ix =>
    split at h
    · rename_i e ad len cap k i hu hx hi
      obtain ⟨inf, hinf, h⟩ := infoK_ok h
      obtain ⟨b, o, rfl, h0, h1, h⟩ := h.out
      refine ⟨_, fun w => ?_, h⟩
      simp only [execOp, hρ _ _ hx, hρ _ _ hi, Instr.indexAt, asIntOf, Sem.run_bind, Sem.run_pure, Result.andThen_ok, run_under hu, h0, h1, and_self, if_true, run_sizeOf hinf, Addr.add_lit]
    · rename_i n e b o k i hu hx hi
      obtain ⟨inf, hinf, h⟩ := infoK_ok h
      obtain ⟨h0, h1, h⟩ := h
      refine ⟨_, fun w => ?_, h⟩
      simp only [execOp, hρ _ _ hx, hρ _ _ hi, Instr.indexAt, asIntOf, Instr.sureAddr, Sem.run_bind, Sem.run_pure, Result.andThen_ok, run_under hu, h0, h1, and_self, if_true, run_sizeOf hinf, Addr.add_lit]
    · exact h.elim
  case index t x ix =>
    split at h
    · rename_i s k i hu hx hi
      obtain ⟨h0, h1, h⟩ := h
      refine ⟨_, fun w => ?_, h⟩
      have hlt : i.toNat < s.size := by omega
      have hs : s[i.toNat]? = some (s.get! i.toNat) := by
        rw [getElem?_pos s i.toNat hlt]
        congr 1
        show s.data[i.toNat] = s.data[i.toNat]!
        rw [getElem!_pos]
      simp [execOp, hρ _ _ hx, hρ _ _ hi, Instr.index, asIntOf, Sem.run_bind, run_under hu, h0, hs]
    · exact h.elim
  case build t parts =>
    split at h
    · rename_i fields hu
      obtain ⟨i, hi, h⟩ := infoK_ok h
      split at h
      · rename_i z hz
        split at h
        · rename_i ha
          have h := cellsK_ok h
          obtain ⟨pl, p1, p2⟩ := places_ok _ ha
          obtain ⟨l, e, h⟩ := buildK_ok hρ p2 h
          refine ⟨_, fun w => ?_, h⟩
          have hb : P.built t (parts.map fun (i, x) => (i, ρ x)).toList = some l.toArray := by
            unfold Program.built
            simp only [hi, hu, hz, p1]
            simpa using e
          have := run_build w t (parts.map fun (i, x) => (i, ρ x)) l.toArray hb
          simp only [execOp, Sem.run_bind, this, Result.andThen_ok, Sem.run_pure]
        · exact h.elim
      · exact h.elim
    · exact h.elim
  case slice t x lo hi mx =>
    split at h
    · rename_i s hu hx
      split at h
      · exact h.elim
      · obtain ⟨l, hl, h⟩ := optK_ok hρ h
        obtain ⟨hh, hhi, h⟩ := optK_ok hρ h
        obtain ⟨b0, b1, b2, b3, h⟩ := h
        refine ⟨_, fun w => ?_, h⟩
        have := sliceBounds_ok (P := P) (b := false) (lo := lo) (hi := hi) (mx := none) (len := s.size) (cap := s.size) (fun e => by simp at e) hl hhi (m := s.size) rfl b0 b1 b2 b3 w
        simp only [Option.map_none] at this
        simp only [execOp, hρ _ _ hx, Instr.sliceAt, Instr.slice, Sem.run_bind, run_under hu, Result.andThen_ok, Option.map_none, Option.isSome_none, Bool.false_eq_true, if_false, Sem.run_pure, this]
    · rename_i e a len cap hu hx
      obtain ⟨inf, hi', h⟩ := infoK_ok h
      split at h
      · rename_i hmx
        obtain ⟨l, hl, h⟩ := optK_ok hρ h
        obtain ⟨hh, hhi, h⟩ := optK_ok hρ h
        obtain ⟨m, hm, h⟩ := optK_ok hρ h
        obtain ⟨b0, b1, b2, b3, h⟩ := h
        refine ⟨_, fun w => ?_, h⟩
        have := sliceBounds_ok (P := P) (b := true) (lo := lo) (hi := hi) (mx := mx) (len := len) (cap := cap) (fun e => by cases mx <;> cases hi <;> simp_all) hl hhi hm b0 b1 b2 b3 w
        simp only [execOp, hρ _ _ hx, Instr.sliceAt, Instr.slice, Sem.run_bind, run_under hu, Result.andThen_ok, this, run_sizeOf hi', Sem.run_pure]
      · exact h.elim
    · exact h.elim
  case makeFunc fn first cap =>
    have h := ev_map hρ h
    have h := ev_map hρ h
    have e : ∀ x : Array Operand, (x.toList.map ρ).toArray = x.map ρ := fun x => by apply Array.ext'; simp
    rw [e, e] at h
    exact ⟨.func fn (first.map ρ) (cap.map ρ), fun w => by simp [execOp, Instr.makeFunc], h⟩
  case call c =>
    obtain ⟨callee, args, argTypes⟩ := c
    split at h
    · rename_i x hc ha
      simp only at hc ha h
      subst hc
      split at h
      · rename_i t ht
        have ha' : args.map ρ = #[ρ x] := by
          apply Array.ext'
          simp [ha]
        split at h
        · rename_i s hu hx
          exact ⟨_, fun w => by simp [execOp, resolve, invoke, builtin, Builtin.len_, ha', ht, hρ _ _ hx, run_under hu, goInt], h⟩
        · rename_i b n c hu hx
          exact ⟨_, fun w => by simp [execOp, resolve, invoke, builtin, Builtin.len_, ha', ht, hρ _ _ hx, run_under hu, goInt], h⟩
        · exact h.elim
      · exact h.elim
    · rename_i x hc ha
      simp only at hc ha h
      subst hc
      split at h
      · rename_i t ht
        have ha' : args.map ρ = #[ρ x] := by
          apply Array.ext'
          simp [ha]
        split at h
        · rename_i b n c hu hx
          exact ⟨_, fun w => by simp [execOp, resolve, invoke, builtin, Builtin.cap_, ha', ht, hρ _ _ hx, run_under hu, goInt], h⟩
        · exact h.elim
      · exact h.elim
    · exact h.elim
  all_goals exact h.elim
end
/-! ### memory -/
def hcell (h : Hp) (b o : Nat) : Option Value :=
  match h[b]? with
  | some (.cells c _ _) => c[o]?
  | _ => none
/-- h' is h with block b turned -/
structure Upd (h : Hp) (b : Nat) (o : Obj) (h' : Hp) : Prop where
  size : h'.size = h.size
  at_ : h'[b]? = some o
  else_ : ∀ k, k ≠ b → h'[k]? = h[k]?
structure Same (w w' : World) : Prop where
  os : w'.os = w.os
  tape : w'.tape = w.tape
  output : w'.output = w.output
theorem Same.refl (w : World) : Same w w := ⟨rfl, rfl, rfl⟩
theorem Same.trans {a b c : World} (h : Same a b) (k : Same b c) : Same a c := ⟨k.os.trans h.os, k.tape.trans h.tape, k.output.trans h.output⟩
/-- a call, told of memory alone -/
def HC (P : Program) (f : FuncId) (args : List Value) (h : Hp) (R : Value → Hp → Prop) : Prop :=
  (∀ (args : Array Value) (w : World), (callFunc f args).run P w = .ok (.enter f args) w) ∧
  ∀ w : World, w.heap = h → Calls P f args.toArray w fun e w' => ∃ v, e = .returned v ∧ Same w w' ∧ R v w'.heap
theorem HC.mono {P : Program} {f : FuncId} {args : List Value} {h : Hp} {R R' : Value → Hp → Prop} (c : HC P f args h R) (hr : ∀ v h', R v h' → R' v h') : HC P f args h R' :=
  ⟨c.1, fun w hw => (c.2 w hw).mono fun _ _ ⟨v, a, b, r⟩ => ⟨v, a, b, hr _ _ r⟩⟩

/-- no fence, but for the round of a range over a function that the code may stand in -/
abbrev FR (ro : Option Nat) : Fence := { Fence.wide with round := ro }
structure EvLd (h : Hp) (b o : Nat) (K : Value → Prop) : Prop where
  out : ∃ v, hcell h b o = some v ∧ K v
structure EvLdN (h : Hp) (b o n : Nat) (K : List Value → Prop) : Prop where
  out : ∃ vs, vs.length = n ∧ (∀ j v, vs[j]? = some v → hcell h b (o + j) = some v) ∧ K vs
structure EvSt (h : Hp) (b o : Nat) (vs : List Value) (K : Hp → Prop) : Prop where
  out : ∃ c T, h[b]? = some (.cells c T (0, 0)) ∧ o + vs.length ≤ c.size ∧ ∀ h', Upd h b (.cells (ovr c.toList o vs).toArray T (0, 0)) h' → K h'
structure EvNew (h : Hp) (o : Obj) (K : Nat → Hp → Prop) : Prop where
  out : K h.size (h.push o)
structure EvCall (P : Program) (f : FuncId) (args : List Value) (h : Hp) (K : Value → Hp → Prop) : Prop where
  out : HC P f args h K
/-- a round of a range over a function, asked for -/
structure EvYield (P : Program) (l : Nat) (args : List Value) (h : Hp) (K : Value → Hp → Prop) : Prop where
  out : ∀ w : World, w.heap = h → ∃ fn tmps assign body, (invoke (.fn (.yield l) #[]) args.toArray).run P w = .ok (.round l fn tmps assign body) w ∧
    ∀ ro fd, RoundIn (FR ro) fd P l fn tmps assign body w fun e w' => ∃ v, e = .returned v ∧ Same w w' ∧ K v w'.heap
/-- a row of bytes, read as a text -/
def bstr (ns : List Int) : ByteArray := ⟨(ns.map fun n => UInt8.ofNat n.toNat).toArray⟩
structure EvStr (h : Hp) (a : Option Addr) (n : Nat) (K : ByteArray → Prop) : Prop where
  out : ∃ ns : List Int, ns.length = n ∧ (∀ (j : Nat) v, ns[j]? = some v → ∃ b o, a = some ⟨b, o, none⟩ ∧ hcell h b (o + j) = some (.int .u8 v)) ∧ K (bstr ns)
/-- a look-up in a map -/
structure EvLook (P : Program) (kt : TypeId) (z : Value) (h : Hp) (r : Nat) (key : Value) (K : Value → Bool → Prop) : Prop where
  out : ∃ es c d, h[r]? = some (.map es c) ∧ P.underlying kt = some d ∧ MapKept.IsKey d key ∧ (∀ x ∈ es.toList, MapKept.IsKey d x.key) ∧ ((∀ x ∈ es.toList, x.key ≠ key) → K z false) ∧ ∀ x ∈ es.toList, x.key = key → K x.val true
/-- an entry of a map set -/
structure EvPut (P : Program) (kt : TypeId) (h : Hp) (r : Nat) (key v : Value) (K : Hp → Prop) : Prop where
  out : ∃ es c d, h[r]? = some (.map es c) ∧ P.underlying kt = some d ∧ MapKept.IsKey d key ∧ (∀ x ∈ es.toList, MapKept.IsKey d x.key) ∧
    ((∀ x ∈ es.toList, x.key ≠ key) → ∀ h', Upd h r (.map (es.push { key := key, val := v, born := c }) (c + 1)) h' → K h') ∧
    ∀ (j : Nat) e, es[j]? = some e → e.key = key → ∀ h', Upd h r (.map (es.modify j fun e => { e with key := key, val := v }) c) h' → K h'
def mkCells (zs : List Value) (n : Nat) : List Value := (List.replicate n zs).flatten
structure EvMk (len cap : Int) (bytes : Nat) (A : Prop) : Prop where
  b0 : 0 ≤ len
  b1 : len ≤ cap
  b2 : cap.toNat * bytes ≤ 140737488355328
  b3 : cap ≤ 9223372036854775807
  out : A
/-- what an append of cells may leave -/
structure EvApp (P : Program) (elem size bytes : Nat) (base : Option Addr) (len cap : Nat) (x : Value) (h : Hp) (K : Value → Hp → Prop) : Prop where
  out : ∃ (old news : List Value) (m : Nat), (∀ w : World, w.heap = h → (Builtin.lenOf x).run P w = .ok m w) ∧ (∀ w : World, w.heap = h → (Builtin.firstCells size m x).run P w = .ok news.toArray w) ∧
    (∀ w : World, w.heap = h → (Builtin.firstCells size len (.slice base len cap)).run P w = .ok old.toArray w) ∧ (∀ v ∈ news, v.oneCell' = true) ∧
    (len + m) * bytes ≤ 140737488355328 ∧ (len + m : Int) ≤ 9223372036854775807 ∧
    (len + m ≤ cap → (news = [] ∧ K (.slice base (len + m) cap) h) ∨ ∃ b o c T, base = some ⟨b, o, none⟩ ∧ h[b]? = some (.cells c T (0, 0)) ∧ o + len * size + news.length ≤ c.size ∧
      ∀ h', Upd h b (.cells (ovr c.toList (o + len * size) news).toArray T (0, 0)) h' → K (.slice base (len + m) cap) h') ∧
    (cap < len + m → ∀ (c' : Nat) (rest : List Value), len + m ≤ c' → rest.length = (c' - (len + m)) * size → K (.slice (some ⟨h.size, 0, none⟩) (len + m) c') (h.push (.cells (old ++ news ++ rest).toArray elem (0, 0))))

/-- a loop over a map begins -/
structure EvRange (h : Hp) (m : Nat) (K : Nat → Hp → Prop) : Prop where
  out : ∃ es c, h[m]? = some (.map es c) ∧ EvNew h (.mapIter (some m) c #[] c) K
def leftE (es : Array MapEntry) (seen : Array Nat) : Array MapEntry := es.filter fun e => !seen.contains e.born
/-- its next entry, whichever -/
structure EvNext (h : Hp) (r : Nat) (K : Value → Hp → Prop) : Prop where
  out : ∃ m since seen last es clock, h[r]? = some (.mapIter (some m) since seen last) ∧ h[m]? = some (.map es clock) ∧ (∀ x ∈ es.toList, x.born < since) ∧ since ≤ last ∧
    ((leftE es seen).size = 0 → K (.tuple #[.bool false]) h) ∧ ∀ e ∈ (leftE es seen).toList, ∀ h', Upd h r (.mapIter (some m) since (seen.push e.born) clock) h' → K (.tuple #[.bool true, e.key, e.val]) h'
/-- the entry come to -/
structure EvEnt (h : Hp) (r : Nat) (K : Value → Prop) : Prop where
  out : ∃ m since, ∃ seen : Array Nat, ∃ clock, ∃ es : Array MapEntry, ∃ e : MapEntry, h[r]? = some (.mapIter (some m) since (seen.push e.born) clock) ∧ h[m]? = some (.map es clock) ∧ e ∈ es.toList ∧ (es.toList.map (·.born)).Nodup ∧ K (.tuple #[e.key, e.val])
/-- an entry struck out -/
structure EvDel (P : Program) (kt : TypeId) (h : Hp) (r : Nat) (key : Value) (K : Hp → Prop) : Prop where
  out : ∃ es c d, h[r]? = some (.map es c) ∧ P.underlying kt = some d ∧ MapKept.IsKey d key ∧ (∀ x ∈ es.toList, MapKept.IsKey d x.key) ∧
    ((∀ x ∈ es.toList, x.key ≠ key) → ∀ h', Upd h r (.map es c) h' → K h') ∧
    ∀ (j : Nat) e, es[j]? = some e → e.key = key → ∀ h', Upd h r (.map (es.eraseIdxIfInBounds j) c) h' → K h'
/-- a row's elements set to zero -/
structure EvClr (a : Option Addr) (n : Nat) (zs : List Value) (h : Hp) (K : Hp → Prop) : Prop where
  out : (n = 0 ∧ K h) ∨ ∃ b o c T, a = some ⟨b, o, none⟩ ∧ n ≠ 0 ∧ h[b]? = some (.cells c T (0, 0)) ∧ o + n * zs.length ≤ c.size ∧ ∀ h', Upd h b (.cells (ovr c.toList o (mkCells zs n)).toArray T (0, 0)) h' → K h'
/-- a row laid over a row -/
structure EvCpy (db : Option Addr) (dn : Nat) (sb : Option Addr) (sn size : Nat) (h : Hp) (K : Nat → Hp → Prop) : Prop where
  out : ∃ cs : List Value, cs.length = min sn dn * size ∧ (∀ (j : Nat) v, cs[j]? = some v → ∃ b o, sb = some ⟨b, o, none⟩ ∧ hcell h b (o + j) = some v) ∧ (∀ v ∈ cs, v.oneCell' = true) ∧
    ((cs = [] ∧ K (min sn dn) h) ∨ ∃ b o c T, db = some ⟨b, o, none⟩ ∧ h[b]? = some (.cells c T (0, 0)) ∧ o + cs.length ≤ c.size ∧ ∀ h', Upd h b (.cells (ovr c.toList o cs).toArray T (0, 0)) h' → K (min sn dn) h')

def ones : List Value → Bool
  | [] => true
  | v :: r => match v with
    | .agg _ => false
    | .tuple _ => false
    | _ => ones r
def appK : List Value → List Value → (List Value → Prop) → Prop
  | [], ys, K => K ys
  | x :: xs, ys, K => appK xs ys fun r => K (x :: r)
def repK : Nat → List Value → (List Value → Prop) → Prop
  | 0, _, K => K []
  | n + 1, zs, K => repK n zs fun r => appK zs r K
/-- elements laid over a row -/
def rowK (f : Fr) (size : Nat) (cells : List Value) : List (Nat × Operand) → (List Value → Prop) → Prop
  | [], K => K cells
  | (i, x) :: rest, K => match f.ev x with
    | some v => cellsK v fun cs => match Nat.beq cs.length size with
      | true => putK cells (i * size) cs fun cells' => rowK f size cells' rest K
      | false => False
    | none => False

def putF (n : Nat) (d : Option Tmp) (v : Value) (K : Fr → Hp → Prop) (f : Fr) (h : Hp) : Prop :=
  match d with
  | none => K f h
  | some d => match Nat.blt d n with
    | true => K ((d, v) :: f) h
    | false => False

/-- what an operation asks, its value and memory handed on -/
def VOpV (P : Program) (o : Oper) (C : Value → Hp → Prop) (f : Fr) (h : Hp) : Prop :=
  match o.op with
  | .load t a => match f.ev a, P.underlying t with
    | some (.pointer (some ⟨b, off, none⟩)), some d => match isAggD d with
      | true => infoK P t fun size _ _ => EvLdN h b off size fun vs => C (.agg vs.toArray) h
      | false => EvLd h b off fun v => C v h
    | _, _ => False
  | .store t a x => match f.ev a, f.ev x with
    | some (.pointer (some ⟨b, off, none⟩)), some v => infoK P t fun size _ _ => cellsK v fun cs => match Nat.beq cs.length size with
      | true => match ones cs with
        | true => EvSt h b off cs fun h' => C undef h'
        | false => False
      | false => False
    | _, _ => False
  | .box t x => match f.ev x with
    | some v => cellsK v fun cs => EvNew h (.cells cs.toArray t (0, 0)) fun b h' => C (.pointer (some ⟨b, 0, none⟩)) h'
    | none => False
  | .alloc t => infoK P t fun _ _ zero => match zero with
    | some z => cellsK z fun cs => EvNew h (.cells cs.toArray t (0, 0)) fun b h' => C (.pointer (some ⟨b, 0, none⟩)) h'
    | none => False
  | .makeSlice t l c => match P.underlying t, f.ev l, f.ev c with
    | some (.slice e), some (.int _ l), some (.int _ c) => infoK P e fun size bytes zero => match zero with
      | some z => cellsK z fun zs => match Nat.beq zs.length size, Nat.beq size 0 with
        | true, false => EvMk l c bytes (EvNew h (.cells (mkCells zs c.toNat).toArray e (0, 0)) fun b h' => C (.slice (some ⟨b, 0, none⟩) l.toNat c.toNat) h')
        | _, _ => False
      | none => False
    | _, _, _ => False
  | .buildSlice t len parts => match P.underlying t with
    | some (.slice e) => infoK P e fun size _ zero => match zero, Nat.ble (len * size) 16777216 with
      | some z, true => cellsK z fun zs => match Nat.beq zs.length size, Nat.beq size 0 with
        | true, false => repK len zs fun cells => rowK f size cells parts.toList fun cells => EvNew h (.cells cells.toArray e (0, 0)) fun b h' => C (.slice (some ⟨b, 0, none⟩) len len) h'
        | _, _ => False
      | _, _ => False
    | _ => False
  | .call c => match c.callee with
    | .value x => match f.ev x with
      | some (.func (.func g) first captured) => evsK f c.args.toList fun args => appK args captured.toList fun r => appK first.toList r fun r => EvCall P g r h fun v h' => C v h'
      | some (.func (.yield l) first captured) => match first.toList, captured.toList with
        | [], [] => evsK f c.args.toList fun args => EvYield P l args h fun v h' => C v h'
        | _, _ => False
      | _ => False
    | .builtin .append => match c.argTypes.toList, c.args.toList with
      | [t, u], [s, x] => match P.underlying t, P.underlying u, f.ev s, f.ev x with
        | some (.slice e), some d, some (.slice base len cap), some v => match (match d with | .slice _ => true | .string => true | _ => false) with
          | true => infoK P e fun size bytes zero => match zero with
            | some z => cellsK z fun zs => match Nat.beq zs.length size with
              | true => EvApp P e size bytes base len cap v h fun v h' => C v h'
              | false => False
            | none => False
          | false => False
        | _, _, _, _ => False
      | _, _ => False
    | .builtin .delete => match c.argTypes.toList, c.args.toList with
      | [t, _], [m, k] => match P.underlying t, f.ev m, f.ev k with
        | some (.map kt _), some (.map (some r)), some key => EvDel P kt h r key fun h' => C (.tuple #[]) h'
        | _, _, _ => False
      | _, _ => False
    | .builtin .clear => match c.argTypes.toList, c.args.toList with
      | [t], [s] => match P.underlying t, f.ev s with
        | some (.slice e), some (.slice base len _) => infoK P e fun _ _ zero => match zero with
          | some z => cellsK z fun zs => match ones zs, Nat.beq zs.length 0 with
            | true, false => EvClr base len zs h fun h' => C (.tuple #[]) h'
            | _, _ => False
          | none => False
        | _, _ => False
      | _, _ => False
    | .builtin .copy => match c.argTypes.toList, c.args.toList with
      | [t, _], [d, s] => match P.underlying t, f.ev d, f.ev s with
        | some (.slice e), some (.slice db dn _), some (.slice sb sn _) => infoK P e fun size _ _ => EvCpy db dn sb sn size h fun n h' => C (.int .i64 n) h'
        | _, _, _ => False
      | _, _ => False
    | _ => VPure P (.call c) f fun v => C v h
  | .convert src dst x => match f.ev x with
    | some (.slice a l _) => match P.underlying src, P.underlying dst with
      | some (.slice e), some .string => match P.underlying e with
        | some (.int .u8) => EvStr h a l fun s => C (.string s) h
        | _ => False
      | _, _ => False
    | _ => VPure P (.convert src dst x) f fun v => C v h
  | .range t x => match P.underlying t, f.ev x with
    | some (.map _ _), some (.map (some m)) => EvRange h m fun b h' => C (.pointer (some ⟨b, 0, none⟩)) h'
    | _, _ => False
  | .next it isS => match f.ev it, isS with
    | some (.pointer (some ⟨r, 0, none⟩)), false => EvNext h r C
    | _, _ => False
  | .entry it => match f.ev it with
    | some (.pointer (some ⟨r, 0, none⟩)) => EvEnt h r fun v => C v h
    | _ => False
  | .makeMap _ r => match r with
    | none => EvNew h (.map #[] 0) fun b h' => C (.map (some b)) h'
    | some _ => False
  | .lookup t x i ok => match P.underlying t, f.ev x, f.ev i with
    | some (.map kt et), some (.map (some r)), some key => infoK P et fun _ _ zero => match zero with
      | some z => match ok with
        | true => EvLook P kt z h r key fun v b => C (.tuple #[v, .bool b]) h
        | false => EvLook P kt z h r key fun v _ => C v h
      | none => False
    | _, _, _ => False
  | .mapUpdate t m k x => match P.underlying t, f.ev m, f.ev k, f.ev x with
    | some (.map kt _), some (.map (some r)), some key, some v => EvPut P kt h r key v fun h' => C undef h'
    | _, _, _, _ => False
  | op => VPure P op f fun v => C v h

def VOp (P : Program) (n : Nat) (o : Oper) (K : Fr → Hp → Prop) (f : Fr) (h : Hp) : Prop := VOpV P o (fun v h' => putF n o.dst v K f h') f h
/-- one operation, its guard looked at -/
def VStepV (P : Program) (all : List Oper) (o : Oper) (C : Fr → Value → Hp → Prop) (f : Fr) (h : Hp) : Prop :=
  match o.guard with
  | none => VOpV P o (C f) f h
  | some (j, want) => match all[j]? with
    | some oj => match oj.dst with
      | some d => match f.get d with
        | some (.bool t) => EvIf t
            (match want with
              | true => VOpV P o (C ((d, .bool true) :: f)) ((d, .bool true) :: f) h
              | false => C ((d, .bool true) :: f) undef h)
            (match want with
              | true => C ((d, .bool false) :: f) undef h
              | false => VOpV P o (C ((d, .bool false) :: f)) ((d, .bool false) :: f) h)
        | some (.tuple vs) => match vs.toList with
          | [] => C f undef h
          | _ => False
        | _ => False
      | none => False
    | none => False
def VStep (P : Program) (n : Nat) (all : List Oper) (o : Oper) (K : Fr → Hp → Prop) (f : Fr) (h : Hp) : Prop :=
  VStepV P all o (fun f1 v h' => putF n o.dst v K f1 h') f h

def VOps (P : Program) (n : Nat) (all : List Oper) : List Oper → (Fr → Hp → Prop) → Fr → Hp → Prop
  | [], K, f, h => K f h
  | o :: rest, K, f, h => VStep P n all o (VOps P n all rest K) f h

/-! ### regions that draw their order -/
/-- an order: small operations as early as may be; at great ones each that may come next -/
inductive Ord where
  | done
  | go (i : Nat) (r : Ord)
  | alt (i : Nat) (r more : Ord)
  | stop
/-- an operation that leaves memory alone and reads it at most by a load -/
def smallOp (o : Oper) : Bool :=
  match o.op with
  | .move _ | .assign _ | .pick .. | .binOp .. | .unOp .. | .nilCheck _ | .convert .. | .extract .. | .field .. | .fieldAddr .. | .indexAddr .. | .index .. | .build .. | .slice .. | .makeFunc .. | .load .. => true
  | .call c => match c.callee with
    | .builtin .len => true
    | .builtin .cap => true
    | _ => false
  | _ => false
/-- the cells that a load reads -/
def loadAt? (P : Program) (o : Oper) (f : Fr) : Option (Nat × Nat × Nat) :=
  match o.op with
  | .load t a => match f.ev a, P.underlying t with
    | some (.pointer (some ⟨b, off, none⟩)), some d => match isAggD d with
      | true => match P.info? t with
        | some ⟨_, _, size, _, _, _, _, _, _, _⟩ => some (b, off, size)
        | none => none
      | false => some (b, off, 1)
    | _, _ => none
  | _ => none
/-- cells that still read as they did -/
structure EvKeep (h h' : Hp) (b o c : Nat) (A : Prop) : Prop where
  keep : ∀ j, j < c → hcell h' b (o + j) = hcell h b (o + j)
  out : A
def keepK (h h' : Hp) (A : Prop) : List (Nat × Nat × Nat × Nat) → Prop
  | [] => A
  | (_, b, o, c) :: r => EvKeep h h' b o c (keepK h h' A r)
def memN (i : Nat) : List Nat → Bool
  | [] => false
  | j :: r => match Nat.beq j i with
    | true => true
    | false => memN i r
def dirs (o : Oper) : List Nat := (o.after.toList.filter fun e => Region.binds .any e).map (·.on)
def dropG (ds : List Nat) : List (Nat × Nat × Nat × Nat) → List (Nat × Nat × Nat × Nat)
  | [] => []
  | x :: r => match memN x.1 ds with
    | true => dropG ds r
    | false => x :: dropG ds r
def defB (f : Fr) : List Operand → Bool
  | [] => true
  | x :: r => match f.ev x with
    | some _ => defB f r
    | none => false
/-- no conversion of a row: that reads memory -/
def convOk (o : Oper) (f : Fr) : Bool :=
  match o.op with
  | .convert _ _ x => match f.ev x with
    | some (.slice _ _ _) => false
    | _ => true
  | _ => true
def defC (f : Fr) (o : Oper) : Bool :=
  match convOk o f with
  | true => defB f o.op.operands.toList
  | false => false
def VD (P : Program) (n : Nat) (all : List Oper) : Ord → List (Nat × Nat × Nat × Nat) → (Fr → Hp → Prop) → Fr → Hp → Prop
  | .done, _, K, f, h => K f h
  | .stop, _, _, _, _ => True
  | .go i r, Γ, K, f, h => match all[i]? with
    | some o => match defC f o with
      | true => match loadAt? P o f with
        | some (b, off, c) => VStep P n all o (VD P n all r ((i, b, off, c) :: Γ) K) f h
        | none => VStep P n all o (VD P n all r Γ K) f h
      | false => False
    | none => False
  | .alt i r m, Γ, K, f, h => match all[i]? with
    | some o => match m with
      | .stop => VStep P n all o (fun f' h' => keepK h h' (VD P n all r (dropG (dirs o) Γ) K f' h') (dropG (dirs o) Γ)) f h
      | m => VStep P n all o (fun f' h' => keepK h h' (VD P n all r (dropG (dirs o) Γ) K f' h') (dropG (dirs o) Γ)) f h ∧ VD P n all m Γ K f h
    | none => False
/-- the heads of a chain -/
def Ord.heads : Ord → List Nat
  | .alt i _ m => i :: m.heads
  | _ => []
def names (ops : List Oper) (o : Oper) : List Nat := o.looksAt ops.toArray ++ o.dst.toList
/-- what an operation writes is looked at only behind it (small), or in an order that the edges tell -/
def smallAt (ops : List Oper) (k : Nat) : Bool :=
  match ops[k]? with
  | some ok => smallOp ok && match ok.dst with
    | some d => !(ok.looksAt ops.toArray).contains d && (List.range ops.length).all fun i => i == k || match ops[i]? with
      | some oi => !(names ops oi).contains d || (dirs oi).contains k
      | none => true
    | none => false
  | none => false
def pairsB (ops : List Oper) : Bool :=
  (List.range ops.length).all fun k => (List.range ops.length).all fun i => i == k || match ops[k]?, ops[i]? with
    | some ok, some oi => match ok.dst with
      | some d => !(names ops oi).contains d || (dirs oi).contains k || (dirs ok).contains i
      | none => true
    | _, _ => true
def openB (ops : List Oper) (g : List Nat) (i : Nat) : Bool :=
  match ops[i]? with
  | some o => !g.contains i && (dirs o).all fun e => g.contains e
  | none => false
def ordB (ops : List Oper) : Ord → Bool → List Nat → Bool
  | .done, top, g => top && (List.range ops.length).all fun i => g.contains i
  | .stop, top, _ => !top
  | .go i r, top, g => top && openB ops g i && smallAt ops i && ordB ops r true (i :: g)
  | .alt i r m, top, g => (!top || (List.range ops.length).all fun k => !openB ops g k || (Ord.alt i r m).heads.contains k) && openB ops g i && ordB ops r true (i :: g) && ordB ops m false g
/-! ### code -/
/-- the frame of the calculus tells the truth of the frame -/
def Ag (n : Nat) (f : Fr) (a : Act) : Prop := a.tmps.size = n ∧ ∀ t v, f.get t = some v → a.tmps.getD t undef = v
def Exit.fine : Exit → Prop
  | .normal | .exit _ | .ret => True
  | _ => False
def Pst (n : Nat) (K : Exit → Fr → Hp → Prop) (d : List Deferred) (w : World) : Exit → Act → World → Prop :=
  fun e a' w' => ∃ f', Exit.fine e ∧ Ag n f' a' ∧ a'.defers = d ∧ Same w w' ∧ K e f' w'.heap
/-- what a piece of code does, told of the calculus's frames and of memory -/
def SVC (P : Program) (n : Nat) (c : Code) (K : Exit → Fr → Hp → Prop) (f : Fr) (h : Hp) : Prop :=
  ∀ (ro : Option Nat) (fd : Nat) (a : Act) (w : World), Ag n f a → w.heap = h → c.wpIn (FR ro) fd P (Pst n K a.defers w) a w
structure EvLoop (P : Program) (n : Nat) (c : Code) (K : Exit → Fr → Hp → Prop) (f : Fr) (h : Hp) : Prop where
  out : SVC P n (.loop c) K f h
structure EvDraw (P : Program) (n : Nat) (id : Nat) (ops : Array Oper) (K : Fr → Hp → Prop) (f : Fr) (h : Hp) : Prop where
  out : SVC P n (.region id ops true) (fun e f h => match e with | .normal => K f h | _ => False) f h
structure EvSeq (P : Program) (n : Nat) (x y : Code) (K : Exit → Fr → Hp → Prop) (f : Fr) (h : Hp) : Prop where
  out : SVC P n (.seq x y) K f h
structure EvOther (P : Program) (n : Nat) (x : Code) (K : Exit → Fr → Hp → Prop) (f : Fr) (h : Hp) : Prop where
  out : SVC P n x K f h
/-- a piece that comes straight through -/
def Code.plain : Code → Bool
  | .skip => true
  | .region .. => true
  | .seq a b => Code.plain a && Code.plain b
  | .label _ => true
  | _ => false
def setB (f : Fr) (c : Operand) (b : Bool) : Fr :=
  match c with
  | .tmp d => (d, .bool b) :: f
  | _ => f
def VC (P : Program) (n : Nat) : Code → (Exit → Fr → Hp → Prop) → Fr → Hp → Prop
  | .skip, K, f, h => K .normal f h
  | .label _, K, f, h => K .normal f h
  | .region id ops draw, K, f, h => match draw with
    | false => VOps P n ops.toList ops.toList (K .normal) f h
    | true => EvDraw P n id ops (K .normal) f h
  | .seq a b, K, f, h => match Code.plain a with
    | true => VC P n a (fun e f h => match e with | .normal => VC P n b K f h | e => K e f h) f h
    | false => EvSeq P n a b K f h
  | .cond c a b, K, f, h => match f.ev c with
    | some (.bool t) => EvIf t (VC P n a K (setB f c true) h) (VC P n b K (setB f c false) h)
    | _ => False
  | .block id c, K, f, h => VC P n c (fun e f h => match e with
    | .exit i => match Nat.beq i id with
      | true => K .normal f h
      | false => K (.exit i) f h
    | e => K e f h) f h
  | .loop c, K, f, h => EvLoop P n c K f h
  | .exit id, K, f, h => K (.exit id) f h
  | .ret, K, f, h => K .ret f h
  | c, K, f, h => EvOther P n c K f h

section
variable {P : Program} {n : Nat}
theorem Ag.ev {f : Fr} {a : Act} (h : Ag n f a) : ∀ x v, f.ev x = some v → a.eval x = v := by
  intro x v hx
  cases x with
  | tmp t => exact h.2 t v hx
  | const u => simpa [Fr.ev, Act.eval] using hx
  | global g => simpa [Fr.ev, Act.eval] using hx
  | func i => simpa [Fr.ev, Act.eval] using hx
theorem Fr.get_cons (d : Nat) (v : Value) (f : Fr) (t : Nat) : Fr.get ((d, v) :: f) t = if d = t then some v else f.get t := by
  simp only [Fr.get]
  by_cases e : d = t
  · subst e; simp
  · rw [if_neg e]
    have : Nat.beq d t = false := by
      cases hb : Nat.beq d t with
      | false => rfl
      | true => exact absurd (Nat.eq_of_beq_eq_true hb) e
    simp [this]
theorem Ag.put {f : Fr} {a : Act} (h : Ag n f a) {d : Nat} (hd : d < n) (v : Value) : Ag n ((d, v) :: f) (a.put (some d) v) := by
  refine ⟨by simp [Act.put, h.1], fun t u ht => ?_⟩
  rw [Fr.get_cons] at ht
  simp only [Act.put]
  by_cases e : d = t
  · subst e
    rw [if_pos rfl] at ht
    cases ht
    rw [Array.getD_eq_getD_getElem?, Array.getElem?_setIfInBounds_self_of_lt (by rw [h.1]; exact hd)]
    rfl
  · rw [if_neg e] at ht
    rw [Array.getD_eq_getD_getElem?, Array.getElem?_setIfInBounds_ne e, ← Array.getD_eq_getD_getElem?]
    exact h.2 t u ht
theorem Ag.same {f : Fr} {a : Act} (h : Ag n f a) {d : Nat} {v : Value} (hd : f.get d = some v) : Ag n ((d, v) :: f) a := by
  refine ⟨h.1, fun t u ht => ?_⟩
  rw [Fr.get_cons] at ht
  by_cases e : d = t
  · subst e; rw [if_pos rfl] at ht; cases ht; exact h.2 _ _ hd
  · rw [if_neg e] at ht; exact h.2 t u ht
/-- what is asked behind an operation -/
def Nx (n : Nat) (K : Fr → Hp → Prop) (d : List Deferred) (w0 : World) : Act → World → Prop :=
  fun a' w' => ∃ f', Ag n f' a' ∧ a'.defers = d ∧ Same w0 w' ∧ K f' w'.heap
theorem putF_ok {d : Option Tmp} {v : Value} {K : Fr → Hp → Prop} {f : Fr} {h : Hp} (hp : putF n d v K f h) {a : Act} (ha : Ag n f a) {w0 w : World} (hs : Same w0 w) (hw : w.heap = h) :
    Nx n K a.defers w0 (a.put d v) w := by
  subst hw
  unfold putF at hp
  cases d with
  | none => exact ⟨f, ha, rfl, hs, hp⟩
  | some d =>
    simp only at hp
    cases hb : Nat.blt d n with
    | false => simp [hb] at hp
    | true =>
      simp only [hb] at hp
      exact ⟨_, ha.put (Nat.le_of_ble_eq_true hb) v, rfl, hs, hp⟩
end
section
variable {P : Program} {n : Nat}
theorem ones_ok : ∀ {vs : List Value}, ones vs = true → ∀ v ∈ vs, v.oneCell' = true
  | v :: r, h, u, hu => by
    have hv : v.oneCell' = true ∧ ones r = true := by cases v <;> first | exact ⟨rfl, h⟩ | (exact absurd h (by simp [ones]))
    rcases List.mem_cons.mp hu with rfl | hu
    · exact hv.1
    · exact ones_ok hv.2 u hu
theorem cell_h (w : World) (b o : Nat) : w.cell? ⟨b, o, none⟩ = hcell w.heap b o := by
  unfold World.cell? hcell
  cases h : w.heap[b]? with
  | none => rfl
  | some x => cases x <;> rfl
theorem cell_add (w : World) (b o j : Nat) : w.cell? ((⟨b, o, none⟩ : Addr).add j) = hcell w.heap b (o + j) := by
  rw [Addr.add_lit, cell_h]
theorem wp_value {o : Oper} {a : Act} {ρ : Operand → Value} {w w' : World} {v : Value} {K : Act → World → Prop} {Q : Exit → Act → World → Prop} {ro : Option Nat} {fd : Nat}
    (h : (execOp ρ o).run P w = .ok (.value v) w') (hk : K (a.put o.dst v) w') : o.uponIn (FR ro) fd P a K Q ((execOp ρ o).run P w) := by
  rw [h]; exact hk
theorem wp_skip' {o : Oper} {a : Act} {ρ : Operand → Value} {w w' : World} {K : Act → World → Prop} {Q : Exit → Act → World → Prop} {ro : Option Nat} {fd : Nat}
    (h : (execOp ρ o).run P w = .ok .skip w') (hk : K (a.put o.dst undef) w') : o.uponIn (FR ro) fd P a K Q ((execOp ρ o).run P w) := by
  rw [h]; exact hk
theorem wp_enter {o : Oper} {a : Act} {ρ : Operand → Value} {w : World} {g : FuncId} {args : Array Value} {K : Act → World → Prop} {Q : Exit → Act → World → Prop} {ro : Option Nat} {fd : Nat}
    (h : (execOp ρ o).run P w = .ok (.enter g args) w) (hk : Calls P g args w fun e w' => ∃ v, e = .returned v ∧ K (a.put o.dst v) w') : o.uponIn (FR ro) fd P a K Q ((execOp ρ o).run P w) := by
  rw [h]
  refine ⟨fun hd => (by cases hd), (callsIn_wide (n := fd - 1)).2 (hk.mono fun e w' ⟨v, he, hk⟩ => ?_)⟩
  subst he
  exact hk
theorem wp_round {o : Oper} {a : Act} {ρ : Operand → Value} {w : World} {l : Nat} {fn : FuncId} {tmps : Array Value} {assign body : Code} {K : Act → World → Prop} {Q : Exit → Act → World → Prop} {ro : Option Nat} {fd : Nat}
    (h : (execOp ρ o).run P w = .ok (.round l fn tmps assign body) w) (hk : ∀ fd, RoundIn (FR ro) fd P l fn tmps assign body w fun e w' => ∃ v, e = .returned v ∧ K (a.put o.dst v) w') : o.uponIn (FR ro) fd P a K Q ((execOp ρ o).run P w) := by
  rw [h]
  refine ⟨fun hd => (by cases hd), (hk (fd - 1)).mono fun e w' ⟨v, he, hk⟩ => ?_⟩
  subst he
  exact hk
theorem setRow_upd (w : World) (b : Nat) (c c' : Array Value) (T : TypeId) (hb : w.heap[b]? = some (.cells c T (0, 0))) : Upd w.heap b (.cells c' T (0, 0)) (w.setRow b c').heap :=
  ⟨setRow_size w b c', setRow_heap w b c c' T (0, 0) hb, fun k hk => setRow_other w b k c' hk⟩
theorem Same.setRow (w : World) (b : Nat) (c : Array Value) : Same w (w.setRow b c) := ⟨rfl, rfl, rfl⟩
theorem repK_ok : ∀ {k : Nat} {zs : List Value} {K : List Value → Prop}, repK k zs K → K (mkCells zs k)
  | 0, _, _, h => h
  | k + 1, zs, K, h => by
    have h1 := repK_ok (k := k) (zs := zs) h
    have app : ∀ {xs ys : List Value} {K : List Value → Prop}, appK xs ys K → K (xs ++ ys) := by
      intro xs
      induction xs with
      | nil => intro ys K h; exact h
      | cons x xs ih => intro ys K h; exact ih (ys := ys) (K := fun r => K (x :: r)) h
    have h2 := app h1
    simpa [mkCells, List.replicate_succ] using h2
theorem appK_ok : ∀ {xs ys : List Value} {K : List Value → Prop}, appK xs ys K → K (xs ++ ys)
  | [], _, _, h => h
  | x :: xs, ys, K, h => appK_ok (xs := xs) (ys := ys) (K := fun r => K (x :: r)) h
theorem rowK_ok {f : Fr} {ρ : Operand → Value} (hρ : ∀ x v, f.ev x = some v → ρ x = v) {size : Nat} :
    ∀ {parts : List (Nat × Operand)} {cells : List Value} {K : List Value → Prop}, rowK f size cells parts K →
      ∃ l, Instr.fill (fun i => some (i * size, size)) cells.toArray (parts.map fun (i, x) => (i, ρ x)) = some (List.toArray l) ∧ K l
  | [], cells, K, h => ⟨cells, rfl, h⟩
  | (i, x) :: rest, cells, K, h => by
    simp only [rowK] at h
    cases hx : f.ev x with
    | none => simp [hx] at h
    | some v =>
      simp only [hx] at h
      have h := cellsK_ok h
      cases hb : Nat.beq v.cells.toList.length size with
      | false => simp only [hb] at h
      | true =>
        simp only [hb] at h
        have hb := Nat.eq_of_beq_eq_true hb
        obtain ⟨a, h⟩ := putK_ok h
        obtain ⟨l, e, h⟩ := rowK_ok hρ h
        refine ⟨l, ?_, h⟩
        simp only [List.map_cons, Instr.fill, hρ x v hx]
        have hs : v.cells.size = size := by simpa using hb
        have hlen : i * size + v.cells.size ≤ cells.length := by simpa using a
        rw [if_neg (by simp [hs]; omega)]
        rw [← e]
        congr 1
        apply Array.ext'
        rw [← Array.foldl_toList, Array.toList_zipIdx]
        exact foldl_ovr (i * size) v.cells.toList 0 cells.toArray (by simpa using hlen)
theorem mkCells_len (zs : List Value) (k : Nat) : (mkCells zs k).length = k * zs.length := by
  simp [mkCells]
theorem mkCells_get (zs : List Value) (hz : zs.length ≠ 0) : ∀ (k i : Nat), i < k * zs.length → (mkCells zs k)[i]? = zs[i % zs.length]?
  | 0, i, h => by simp at h
  | k + 1, i, h => by
    have hm : mkCells zs (k + 1) = zs ++ mkCells zs k := by simp [mkCells, List.replicate_succ]
    rw [hm, List.getElem?_append]
    by_cases hi : i < zs.length
    · rw [if_pos hi, Nat.mod_eq_of_lt hi]
    · rw [if_neg hi, mkCells_get zs hz k (i - zs.length) (by rw [Nat.add_mul] at h; omega)]
      rw [Nat.mod_eq_sub_mod (by omega : i ≥ zs.length)]
theorem range_cells (zs : Array Value) (k n : Nat) (hz : zs.size ≠ 0) (hn : n = k * zs.size) : (Array.range n).map (fun i => zs[i % zs.size]!) = (mkCells zs.toList k).toArray := by
  apply Array.ext'
  apply List.ext_getElem?
  intro i
  by_cases hi : i < n
  · have e := mkCells_get zs.toList (by simpa using hz) k i (by subst hn; simpa using hi)
    have hlt : i % zs.size < zs.size := Nat.mod_lt _ (by omega)
    simp only [Array.toList_map, Array.toList_range, List.getElem?_map, List.getElem?_range hi, Option.map_some, e, Array.length_toList, Array.getElem?_toList]
    rw [getElem!_pos zs _ hlt, Array.getElem?_eq_getElem hlt]
  · have h1 : (mkCells zs.toList k).length = n := by rw [mkCells_len]; simp [hn]
    simp only [Array.toList_map, Array.toList_range, List.getElem?_map]
    rw [List.getElem?_eq_none (by simp; omega), List.getElem?_eq_none (by rw [h1]; omega)]
    rfl
end
section
variable {P : Program}
theorem foldl_push_bstr (ns : List Int) : ns.foldl (fun r n => r.push (UInt8.ofNat n.toNat)) ByteArray.empty = bstr ns := by
  have key : ∀ (ns : List Int) (s : ByteArray), (ns.foldl (fun r n => r.push (UInt8.ofNat n.toNat)) s).data = s.data ++ (ns.map fun n => UInt8.ofNat n.toNat).toArray := by
    intro ns
    induction ns with
    | nil => intro s; simp
    | cons n r ih =>
      intro s
      rw [List.foldl_cons, ih]
      simp [ByteArray.push]
  have := key ns ByteArray.empty
  unfold bstr
  cases h : ns.foldl (fun r n => r.push (UInt8.ofNat n.toNat)) ByteArray.empty with
  | mk d => rw [h] at this; simp at this; rw [this]
theorem run_next (ty : TypeId) {w : World} {r m since last : Nat} {seen : Array Nat} {es : Array MapEntry} {clock : Nat} (hr : w.heap[r]? = some (.mapIter (some m) since seen last)) (hb : w.heap[m]? = some (.map es clock)) (hold : ∀ x ∈ es.toList, x.born < since) (hsc : since ≤ last) :
    ((leftE es seen).size = 0 ∧ (Instr.next (.pointer (some ⟨r, 0, none⟩)) false ty).run P w = .ok (.tuple #[.bool false]) w) ∨
    ∃ e ∈ (leftE es seen).toList, ∃ w1 : World, w1.heap = w.heap ∧ Same w w1 ∧ (Instr.next (.pointer (some ⟨r, 0, none⟩)) false ty).run P w = .ok (.tuple #[.bool true, e.key, e.val]) { w1 with heap := w1.heap.setIfInBounds r (.mapIter (some m) since (seen.push e.born) clock) } := by
  have htest := next_test_false seen es since last hold hsc
  simp only [Instr.next, getObj, Sem.run_bind, Sem.run, hr, hb, Result.andThen, htest, Bool.false_eq_true, if_false]
  unfold leftE
  have hmem : ∀ x ∈ (Array.filter (fun e => !seen.contains e.born) es).toList, x.born < since := fun x hx => hold x (by simp at hx ⊢; exact hx.1)
  generalize Array.filter (fun e => !seen.contains e.born) es = L at hmem ⊢
  have e1 : L.filter (fun x => decide (x.born < since)) = L := Array.filter_eq_self.2 (fun x hx => by simpa using hmem x (by simpa using hx))
  have e2 : L.filter (fun x => decide (x.born ≥ since)) = #[] := by
    rw [Array.filter_eq_empty_iff]
    intro x hx
    have := hmem x (by simpa using hx)
    simp
    omega
  simp only [e1, e2, Array.append_empty]
  by_cases h0 : L.size = 0
  · left
    have : L = #[] := Array.eq_empty_of_size_eq_zero h0
    subst this
    refine ⟨rfl, ?_⟩
    simp [choose, Sem.run, Question.forced]
  · right
    have hne : L.isEmpty = false := by simp [Array.isEmpty, h0]
    simp only [hne, Bool.false_eq_true, if_false, Array.empty_append, Array.size_map]
    have hch : ∃ (j : Nat) (w1 : World), j < L.size ∧ w1.heap = w.heap ∧ Same w w1 ∧ (choose (Question.mapNext L.size)).run P w = .ok j w1 := by
      by_cases hf : L.size ≤ 1
      · exact ⟨0, w, by omega, rfl, Same.refl w, by simp [choose, Sem.run, Question.forced, hf]⟩
      · exact ⟨_, w.drew, Nat.mod_lt _ (by omega), rfl, ⟨rfl, rfl, rfl⟩, by
          simp only [choose, Sem.run, Question.forced, decide_eq_true_eq, hf, if_false, Question.cut]
          rfl⟩
    obtain ⟨j, w1, hj, hal, hsw, hrun⟩ := hch
    refine ⟨L[j], by simp, w1, hal, hsw, ?_⟩
    have hset : ∀ (o' : Obj), (setObj r o').run P w1 = .ok () { w1 with heap := w1.heap.setIfInBounds r o' } := fun o' => by
      simp only [setObj, Sem.run]
      rw [hal, hr]
    simp only [hrun, Array.getElem?_map, Array.getElem?_eq_getElem hj, Option.map_some, Sem.run_bind, hset, Result.andThen]
    rfl
theorem vopv_ok {o : Oper} {C : Value → Hp → Prop} {f : Fr} {h : Hp} (hv : VOpV P o C f h) {a : Act} {ρ : Operand → Value} (hρ : ∀ x v, f.ev x = some v → ρ x = v) {w : World} (hw : w.heap = h) {N : Act → World → Prop}
    (hN : ∀ v w', Same w w' → C v w'.heap → N (a.put o.dst v) w') {Q : Exit → Act → World → Prop} {ro : Option Nat} {fd : Nat} : o.uponIn (FR ro) fd P a N Q ((execOp ρ o).run P w) := by
  have hs := Same.refl w
  have pure_ok : ∀ op, o.op = op → VPure P op f (fun v => C v h) → o.uponIn (FR ro) fd P a N Q ((execOp ρ o).run P w) := by
    intro op e hp
    subst e
    obtain ⟨v, e, hp⟩ := vpure_ok hρ hp
    exact wp_value (e w) (hN _ _ hs (by rw [hw]; exact hp))
  obtain ⟨dst, op, ty, pos, after, guard⟩ := o
  cases op
  case load t x =>
    simp only [VOpV] at hv
    split at hv
    · rename_i b off d hx hu
      have hrun : ∀ v, (loadVar t ⟨b, off, none⟩).run P w = .ok v w → (execOp ρ ⟨dst, .load t x, ty, pos, after, guard⟩).run P w = .ok (.value v) w := by
        intro v e
        simp only [execOp, hρ _ _ hx, Instr.loadAt, Instr.sureAddr, Sem.run_bind, Sem.run_pure, Result.andThen_ok, e]
      split at hv
      · rename_i hd
        obtain ⟨i, hi, hv⟩ := infoK_ok hv
        obtain ⟨vs, h1, h2, hv⟩ := hv.out
        refine wp_value (hrun _ ?_) (hN _ _ hs (by rw [hw]; exact hv))
        have := run_loadCells_list (P := P) w ⟨b, off, none⟩ vs (fun j v e => by rw [cell_add, hw]; exact h2 j v e)
        simp only [loadVar, Sem.run_bind, run_isAgg hu, hd, Result.andThen_ok, if_true, run_sizeOf hi, ← h1, this, Sem.run_pure]
      · rename_i hd
        obtain ⟨v, h1, hv⟩ := hv.out
        refine wp_value (hrun _ ?_) (hN _ _ hs (by rw [hw]; exact hv))
        have e : w.cell? ⟨b, off, none⟩ = some v := by rw [cell_h, hw]; exact h1
        simp only [loadVar, Sem.run_bind, run_isAgg hu, hd, Result.andThen_ok, Bool.false_eq_true, if_false, run_load, e]
    · exact hv.elim
  case store t x y =>
    simp only [VOpV] at hv
    split at hv
    · rename_i b off v hx hy
      obtain ⟨i, hi, hv⟩ := infoK_ok hv
      have hv := cellsK_ok hv
      split at hv
      · rename_i hb
        have hb := Nat.eq_of_beq_eq_true hb
        split at hv
        · rename_i h1
          obtain ⟨c, T, e, hle, hv⟩ := hv.out
          subst hw
          have hst := run_storeCells_at P b off T v.cells.toList 0 c w e (by simpa using hle) (ones_ok h1)
          simp only [Nat.add_zero] at hst
          refine wp_skip' (w' := w.setRow b (c.toList.take off ++ v.cells.toList ++ c.toList.drop (off + v.cells.toList.length)).toArray) ?_ ?_
          · simp only [execOp, hρ _ _ hx, hρ _ _ hy, Instr.storeAt, Instr.sureAddr, storeVar, Sem.run_bind, Sem.run_pure, Result.andThen_ok, run_sizeOf hi]
            rw [if_neg (by simpa using hb)]
            rw [hst]
            rfl
          · exact hN _ _ (Same.setRow _ _ _) (hv _ (setRow_upd w b c _ T e))
        · exact hv.elim
      · exact hv.elim
    · exact hv.elim
  case box t x =>
    simp only [VOpV] at hv
    split at hv
    · rename_i v hx
      have hv := (cellsK_ok hv).out
      subst hw
      refine wp_value (v := .pointer (some ⟨w.heap.size, 0, none⟩)) (w' := { w with heap := w.heap.push (.cells v.cells t (0, 0)) }) ?_ (hN _ _ ⟨rfl, rfl, rfl⟩ (by simpa using hv))
      simp only [execOp, hρ _ _ hx, Instr.box, newVar, newRow, newObj, Sem.run_bind, Sem.run, Result.andThen_ok, Sem.run_pure]
    · exact hv.elim
  case alloc t =>
    simp only [VOpV] at hv
    obtain ⟨i, hi, hv⟩ := infoK_ok hv
    split at hv
    · · rename_i z hz
        have hv := (cellsK_ok hv).out
        subst hw
        refine wp_value (v := .pointer (some ⟨w.heap.size, 0, none⟩)) (w' := { w with heap := w.heap.push (.cells z.cells t (0, 0)) }) ?_ (hN _ _ ⟨rfl, rfl, rfl⟩ (by simpa using hv))
        have hzv : (zeroValue t).run P w = .ok z w := by simp [zeroValue, run_info hi, hz]
        simp only [execOp, Instr.alloc, Sem.run_bind, hzv, Result.andThen_ok, newVar, newRow, newObj, Sem.run, Sem.run_pure]
    · exact hv.elim
  case makeSlice t l c =>
    simp only [VOpV] at hv
    split at hv
    · rename_i e k1 l' k2 c' hu hl hc
      obtain ⟨i, hi, hv⟩ := infoK_ok hv
      · split at hv
        · rename_i z hz
          have hv := cellsK_ok hv
          split at hv
          · rename_i hb1 hb2
            have hb1 := Nat.eq_of_beq_eq_true hb1
            obtain ⟨b0, b1, b2, b3, hv⟩ := hv
            subst hw
            have hzs : z.cells.size ≠ 0 := by
              intro e0
              rw [← hb1] at hb2
              simp [e0] at hb2
            have hws : i.size = z.cells.size := by simpa using hb1.symm
            have hrow := range_cells z.cells c'.toNat (c'.toNat * i.size) hzs (by rw [hws])
            refine wp_value (v := .slice (some ⟨w.heap.size, 0, none⟩) l'.toNat c'.toNat) (w' := { w with heap := w.heap.push (.cells (mkCells z.cells.toList c'.toNat).toArray e (0, 0)) }) ?_ (hN _ _ ⟨rfl, rfl, rfl⟩ hv.out)
            have b2' : ((c'.toNat * i.bytes : Nat) : Int) ≤ ((140737488355328 : Nat) : Int) := Int.ofNat_le.mpr b2
            rw [Int.natCast_mul, Int.toNat_of_nonneg (by omega), Int.mul_comm] at b2'
            have hm := run_make (P := P) w t e i z hu hi hz k1 k2 l' c' b0 b1 (by omega) b3
            have hmc : madeCells z.cells (c'.toNat * i.size) = (mkCells z.cells.toList c'.toNat).toArray := hrow
            rw [hmc] at hm
            simp only [execOp, hρ _ _ hl, hρ _ _ hc, Sem.run_bind, hm, Result.andThen_ok, Sem.run_pure]
            rfl
          · exact hv.elim
        · exact hv.elim
    · exact hv.elim
  case buildSlice t len parts =>
    simp only [VOpV] at hv
    split at hv
    · rename_i e hu
      obtain ⟨i, hi, hv⟩ := infoK_ok hv
      · split at hv
        · rename_i z hz hle
          have hle := Nat.le_of_ble_eq_true hle
          have hv := cellsK_ok hv
          split at hv
          · rename_i hb1 hb2
            have hb1 := Nat.eq_of_beq_eq_true hb1
            have hzs : z.cells.size ≠ 0 := by
              intro e0
              rw [← hb1] at hb2
              simp [e0] at hb2
            have hws : i.size = z.cells.size := by simpa using hb1.symm
            obtain ⟨l, hf, hv⟩ := rowK_ok hρ (repK_ok hv)
            subst hw
            have hrow := range_cells z.cells len (len * i.size) hzs (by rw [hws])
            refine wp_value (v := .slice (some ⟨w.heap.size, 0, none⟩) len len) (w' := { w with heap := w.heap.push (.cells l.toArray e (0, 0)) }) ?_ (hN _ _ ⟨rfl, rfl, rfl⟩ hv.out)
            have hzv : ∀ w, (zeroValue e).run P w = .ok z w := fun w => by simp [zeroValue, run_info hi, hz]
            have hf' : Instr.fill (fun k => some (k * i.size, i.size)) ((Array.range (len * i.size)).map (fun k => z.cells[k % z.cells.size]!)) (parts.map fun (i, x) => (i, ρ x)).toList = some l.toArray := by
              rw [hrow]
              simpa using hf
            by_cases hn : len * i.size = 0
            · have hlen : len = 0 := by
                rcases Nat.mul_eq_zero.mp hn with h | h
                · exact h
                · omega
              subst hlen
              simp only [Nat.zero_mul, Array.range_zero', Array.map_empty] at hf'
              have hn2 : ¬ (0 > 2 ^ 24) := by decide
              simp only [execOp, Instr.buildSlice, Sem.run_bind, run_under hu, run_sizeOf hi, Result.andThen_ok, Nat.zero_mul, hn2, if_false, if_true, Sem.run_pure, Array.range_zero', Array.map_empty, hf', newRow, newObj, Sem.run]
            · have hn2 : ¬ (len * i.size > 2 ^ 24) := by omega
              simp only [execOp, Instr.buildSlice, Sem.run_bind, run_under hu, run_sizeOf hi, Result.andThen_ok, hn2, hn, if_false, hzv, Sem.run_pure, hf', newRow, newObj, Sem.run]
          · exact hv.elim
        · exact hv.elim
    · exact hv.elim
  case call c =>
    obtain ⟨callee, args, argTypes⟩ := c
    simp only [VOpV] at hv
    split at hv
    · rename_i x
      split at hv
      · rename_i g first captured hx
        have hv := ev_map hρ hv
        have hv := appK_ok hv
        have hv := (appK_ok hv).out
        subst hw
        have e : (first.toList ++ (args.toList.map ρ ++ captured.toList)).toArray = (first ++ args.map ρ) ++ captured := by
          apply Array.ext'
          simp
        refine wp_enter (g := g) (args := (first ++ args.map ρ) ++ captured) ?_ ?_
        · simp only [execOp, resolve, hρ _ _ hx, Deferred.ofValue, Sem.run_bind, Sem.run_pure, Result.andThen_ok, invoke, hv.1]
        · have := hv.2 w rfl
          rw [e] at this
          refine this.mono ?_
          rintro e' w' ⟨v, he, hsame, hk⟩
          exact ⟨v, he, hN _ _ hsame hk⟩
      · rename_i l first captured hx
        split at hv
        · rename_i hf1 hc1
          have hf2 : first = #[] := by apply Array.ext'; simpa using hf1
          have hc2 : captured = #[] := by apply Array.ext'; simpa using hc1
          subst hf2
          subst hc2
          have hv := ev_map hρ hv
          subst hw
          obtain ⟨fn, tmps, assign, body, e1, hr⟩ := hv.out w rfl
          have e2 : (args.toList.map ρ).toArray = args.map ρ := by apply Array.ext'; simp
          rw [e2] at e1
          refine wp_round (l := l) (fn := fn) (tmps := tmps) (assign := assign) (body := body) ?_ (fun fd => (hr ro fd).mono fun e' w' ⟨v, he, hsame, hk⟩ => ⟨v, he, hN _ _ hsame hk⟩)
          simp only [execOp, resolve, hρ _ _ hx, Deferred.ofValue, Sem.run_bind, Sem.run_pure, Result.andThen_ok, Array.empty_append, e1]
        · exact hv.elim
      · exact hv.elim
    · split at hv
      · rename_i t u s x hat hca
        have ht : argTypes = #[t, u] := by apply Array.ext'; simpa using hat
        have hca' : args.map ρ = #[ρ s, ρ x] := by apply Array.ext'; simp [hca]
        subst ht
        split at hv
        · rename_i e d base len cap v hu1 hu2 hs1 hx1
          have main : ∀ (i : TypeInfo) (z : Value), P.info? e = some i → i.zero = some z → (∀ k, d ≠ .int k) → Nat.beq z.cells.toList.length i.size = true →
              EvApp P e i.size i.bytes base len cap v h C → Oper.uponIn (FR ro) fd P ⟨dst, .call ⟨.builtin .append, args, #[t, u]⟩, ty, pos, after, guard⟩ a N Q ((execOp ρ ⟨dst, .call ⟨.builtin .append, args, #[t, u]⟩, ty, pos, after, guard⟩).run P w) := by
            intro i z hi hz hd hb hv
            have hb := Nat.eq_of_beq_eq_true hb
            obtain ⟨old, news, m, h1, h2, h3, hones, hb1, hb2, hin, hout⟩ := hv.out
            subst hw
            have hzv : ∀ w, (zeroValue e).run P w = .ok z w := fun w => by simp [zeroValue, run_info hi, hz]
            have hd' : (d matches .int _) = false := by cases d <;> first | rfl | exact absurd rfl (hd _)
            have hz' : z.cells.size = i.size := by simpa using hb
            by_cases hroom : len + m ≤ cap
            · have hap : ∀ w', (Builtin.append_ #[t, u] ty #[.slice base len cap, v]).run P w = .ok (.slice base (len + m) cap) w' ∨ True := fun _ => .inr trivial
              rcases hin hroom with ⟨rfl, hk⟩ | ⟨b, o, c, T, rfl, hbk, hfit, hk⟩
              · refine wp_value (v := .slice base (len + m) cap) (w' := w) ?_ (hN _ _ hs hk)
                simp only [execOp, resolve, hca', hρ _ _ hs1, hρ _ _ hx1, invoke, builtin, Sem.run_bind, Sem.run_pure, Result.andThen_ok, Builtin.append_, List.getElem?_toArray, List.getElem?_cons_zero, List.getElem?_cons_succ, run_under hu1, run_under hu2, run_sizeOf hi, hd', h1 w rfl, hroom, if_true, Bool.false_eq_true, if_false, Bool.not_false, h2 w rfl]
                cases base <;> simp [storeCells]
              · refine wp_value (v := .slice (some ⟨b, o, none⟩) (len + m) cap) (w' := w.setRow b (c.toList.take (o + len * i.size) ++ news ++ c.toList.drop (o + len * i.size + news.length)).toArray) ?_ (hN _ _ (Same.setRow _ _ _) (hk _ (setRow_upd w b c _ T hbk)))
                have hst := run_storeCells_at P b (o + len * i.size) T news 0 c w hbk (by simpa using hfit) hones
                simp only [Nat.add_zero] at hst
                simp only [execOp, resolve, hca', hρ _ _ hs1, hρ _ _ hx1, invoke, builtin, Sem.run_bind, Sem.run_pure, Result.andThen_ok, Builtin.append_, List.getElem?_toArray, List.getElem?_cons_zero, List.getElem?_cons_succ, run_under hu1, run_under hu2, run_sizeOf hi, hd', h1 w rfl, hroom, if_true, Bool.false_eq_true, if_false, Bool.not_false, h2 w rfl, Addr.add_lit, hst]
            · have hlt : cap < len + m := by omega
              have hfit := growslice_fits (bytes := i.bytes) hlt (by omega)
              have hk := hout hlt (grownCap w (len + m) cap e) (Builtin.zeroCells z.cells (grownCap w (len + m) cap e - (len + m))).toList (show len + m ≤ (len + m) + _ from Nat.le_add_right _ _) (by simp [Builtin.zeroCells, hz'])
              have n1 : ¬ (((len + m : Nat) : Int) > IntKind.i64.max) := by rw [IntKind.max_i64]; omega
              have n2 : ¬ (Builtin.nextslicecap (len + m) cap * i.bytes > 2 ^ 48) := by omega
              have hch : (choose (.appendCap (len + m) cap e)).run P w = .ok (grownCap w (len + m) cap e) w.drew := rfl
              have har : ∀ k w, (askRoom k).run P w = .ok () w := by intro k w; unfold askRoom; split <;> rfl
              refine wp_value (v := .slice (some ⟨w.heap.size, 0, none⟩) (len + m) (grownCap w (len + m) cap e)) (w' := { w.drew with heap := w.heap.push (.cells (old ++ news ++ (Builtin.zeroCells z.cells (grownCap w (len + m) cap e - (len + m))).toList).toArray e (0, 0)) }) ?_ (hN _ _ ⟨rfl, rfl, rfl⟩ hk)
              simp only [execOp, resolve, hca', hρ _ _ hs1, hρ _ _ hx1, invoke, builtin, Sem.run_bind, Sem.run_pure, Result.andThen_ok, Builtin.append_, List.getElem?_toArray, List.getElem?_cons_zero, List.getElem?_cons_succ, run_under hu1, run_under hu2, run_sizeOf hi, run_info hi, hd', h1 w rfl, hroom, n1, n2, false_and, if_true, Bool.false_eq_true, if_false, Bool.not_false, hch, har, h2 w.drew rfl, h3 w.drew rfl, hzv, newRow, newObj, Sem.run]
              have e1 : Result.ok (Next.value (.slice (some ⟨w.heap.size, 0, none⟩) (len + m) (grownCap w (len + m) cap e))) ({ w.drew with heap := w.heap.push (.cells (old.toArray ++ news.toArray ++ Builtin.zeroCells z.cells (grownCap w (len + m) cap e - (len + m))) e (0, 0)) }) = Result.ok (Next.value (.slice (some ⟨w.heap.size, 0, none⟩) (len + m) (grownCap w (len + m) cap e))) ({ w.drew with heap := w.heap.push (.cells (old ++ news ++ (Builtin.zeroCells z.cells (grownCap w (len + m) cap e - (len + m))).toList).toArray e (0, 0)) }) := by
                have e0 : old.toArray ++ news.toArray ++ Builtin.zeroCells z.cells (grownCap w (len + m) cap e - (len + m)) = (old ++ news ++ (Builtin.zeroCells z.cells (grownCap w (len + m) cap e - (len + m))).toList).toArray := by
                  apply Array.ext'
                  simp
                rw [e0]
              exact e1
          split at hv
          · rename_i hd
            obtain ⟨i, hi, hv⟩ := infoK_ok hv
            split at hv
            · rename_i z hz
              have hv := cellsK_ok hv
              split at hv
              · rename_i hb
                exact main i z hi hz (fun k e => by subst e; simp at hd) hb hv
              · exact hv.elim
            · exact hv.elim
          · exact hv.elim
        · exact hv.elim
      · exact hv.elim
    · split at hv
      · rename_i t u m k hat hca
        have ht : argTypes = #[t, u] := by apply Array.ext'; simpa using hat
        have hca' : args.map ρ = #[ρ m, ρ k] := by apply Array.ext'; simp [hca]
        subst ht
        split at hv
        · rename_i kt et r key hu hm1 hk1
          obtain ⟨es, c, d, hb, hd, hk, hks, k1, k2⟩ := hv.out
          subst hw
          have upd : ∀ o', Upd w.heap r o' (w.heap.setIfInBounds r o') := fun o' => ⟨by simp, (MapKept.heap_set hb).1, fun k hne => (MapKept.heap_set hb).2 k hne⟩
          rcases MapKept.findNow_spec hk es.toList 0 hks with ⟨h1, h2⟩ | ⟨j, e, h1, h2, h3⟩
          · refine wp_value (v := .tuple #[]) (w' := { w with heap := w.heap.setIfInBounds r (.map es c) }) ?_ (hN _ _ ⟨rfl, rfl, rfl⟩ (k1 h2 _ (upd _)))
            simp only [execOp, resolve, hca', hρ _ _ hm1, hρ _ _ hk1, invoke, builtin, Sem.run_bind, Sem.run_pure, Result.andThen_ok, Builtin.delete_, List.getElem?_toArray, List.getElem?_cons_zero, List.getElem?_cons_succ, run_under hu, MapKept.run_getObj_map hb, MapKept.run_checkKey hd hk, MapKept.run_findKey hd h1, MapKept.run_setObj_map _ hb]
          · have hj : es[j]? = some e := by simpa using h2
            refine wp_value (v := .tuple #[]) (w' := { w with heap := w.heap.setIfInBounds r (.map (es.eraseIdxIfInBounds j) c) }) ?_ (hN _ _ ⟨rfl, rfl, rfl⟩ (k2 j e hj h3 _ (upd _)))
            simp only [execOp, resolve, hca', hρ _ _ hm1, hρ _ _ hk1, invoke, builtin, Sem.run_bind, Sem.run_pure, Result.andThen_ok, Builtin.delete_, List.getElem?_toArray, List.getElem?_cons_zero, List.getElem?_cons_succ, run_under hu, MapKept.run_getObj_map hb, MapKept.run_checkKey hd hk, MapKept.run_findKey hd h1, Nat.zero_add, MapKept.run_setObj_map _ hb]
        · exact hv.elim
      · exact hv.elim
    · split at hv
      · rename_i t s hat hca
        have ht : argTypes = #[t] := by apply Array.ext'; simpa using hat
        have hca' : args.map ρ = #[ρ s] := by apply Array.ext'; simp [hca]
        subst ht
        split at hv
        · rename_i e base len cap hu hs1
          obtain ⟨i, hi, hv⟩ := infoK_ok hv
          split at hv
          · rename_i z hz
            have hv := cellsK_ok hv
            split at hv
            · rename_i hones hz0
              have hz0' : z.cells.size ≠ 0 := fun e0 => by
                have : Nat.beq z.cells.toList.length 0 = true := by simp [e0]
                rw [this] at hz0
                cases hz0
              subst hw
              have hzv : ∀ w, (zeroValue e).run P w = .ok z w := fun w => by simp [zeroValue, run_info hi, hz]
              rcases hv.out with ⟨rfl, hk⟩ | ⟨b, o, c, T, rfl, hn0, hbk, hfit, hk⟩
              · refine wp_value (v := .tuple #[]) (w' := w) ?_ (hN _ _ hs hk)
                simp only [execOp, resolve, hca', hρ _ _ hs1, invoke, builtin, Sem.run_bind, Sem.run_pure, Result.andThen_ok, Builtin.clear_, List.getElem?_toArray, List.getElem?_cons_zero, run_under hu]
                cases base <;> rfl
              · refine wp_value (v := .tuple #[]) (w' := w.setRow b (c.toList.take o ++ mkCells z.cells.toList len ++ c.toList.drop (o + (mkCells z.cells.toList len).length)).toArray) ?_ (hN _ _ (Same.setRow _ _ _) (hk _ (setRow_upd w b _ _ T hbk)))
                have hone : ∀ v ∈ mkCells z.cells.toList len, v.oneCell' = true := by
                  intro v hv
                  unfold mkCells at hv
                  obtain ⟨l, hl, hvl⟩ := List.mem_flatten.mp hv
                  rw [List.eq_of_mem_replicate hl] at hvl
                  exact ones_ok hones v hvl
                have hml : (mkCells z.cells.toList len).length = len * z.cells.size := by rw [mkCells_len]; simp
                have hst := run_storeCells_at P b o T (mkCells z.cells.toList len) 0 c w hbk (by rw [hml]; simpa using hfit) hone
                simp only [Nat.add_zero] at hst
                have hzc : (Builtin.zeroCells z.cells len) = (mkCells z.cells.toList len).toArray := range_cells z.cells len (len * z.cells.size) hz0' rfl
                obtain ⟨len', rfl⟩ : ∃ k, len = k + 1 := ⟨len - 1, by omega⟩
                simp only [execOp, resolve, hca', hρ _ _ hs1, invoke, builtin, Sem.run_bind, Sem.run_pure, Result.andThen_ok, Builtin.clear_, List.getElem?_toArray, List.getElem?_cons_zero, run_under hu, hzv, hzc, hst]
            · exact hv.elim
          · exact hv.elim
        · exact hv.elim
      · exact hv.elim
    · split at hv
      · rename_i t u d s hat hca
        have ht : argTypes = #[t, u] := by apply Array.ext'; simpa using hat
        have hca' : args.map ρ = #[ρ d, ρ s] := by apply Array.ext'; simp [hca]
        subst ht
        split at hv
        · rename_i e db dn dc sb sn sc hu hd1 hs1
          obtain ⟨i, hi, hv⟩ := infoK_ok hv
          obtain ⟨cs, hlen, hrd, hones, hv⟩ := hv.out
          subst hw
          have hf : (Builtin.firstCells i.size (Nat.min sn dn) (.slice sb sn sc)).run P w = .ok cs.toArray w := by
            cases sb with
            | none =>
              have : cs = [] := by
                cases cs with
                | nil => rfl
                | cons v r => obtain ⟨_, _, e, _⟩ := hrd 0 v rfl; cases e
              subst this
              rfl
            | some a0 =>
              show (loadCells a0 (Nat.min sn dn * i.size)).run P w = _
              rw [show Nat.min sn dn * i.size = cs.length from hlen.symm]
              refine run_loadCells_list w a0 cs (fun j v e => ?_)
              obtain ⟨b, o, e1, e2⟩ := hrd j v e
              cases e1
              rw [cell_add]
              exact e2
          rcases hv with ⟨rfl, hk⟩ | ⟨b, o, c, T, rfl, hbk, hfit, hk⟩
          · refine wp_value (v := .int .i64 (Nat.min sn dn)) (w' := w) ?_ (hN _ _ hs hk)
            simp only [execOp, resolve, hca', hρ _ _ hd1, hρ _ _ hs1, invoke, builtin, Sem.run_bind, Sem.run_pure, Result.andThen_ok, Builtin.copy_, List.getElem?_toArray, List.getElem?_cons_zero, List.getElem?_cons_succ, run_under hu, run_sizeOf hi, Builtin.lenOf, hf]
            cases db <;> rfl
          · refine wp_value (v := .int .i64 (Nat.min sn dn)) (w' := w.setRow b (c.toList.take o ++ cs ++ c.toList.drop (o + cs.length)).toArray) ?_ (hN _ _ (Same.setRow _ _ _) (hk _ (setRow_upd w b _ _ T hbk)))
            have hst := run_storeCells_at P b o T cs 0 c w hbk (by simpa using hfit) hones
            simp only [Nat.add_zero] at hst
            simp only [execOp, resolve, hca', hρ _ _ hd1, hρ _ _ hs1, invoke, builtin, Sem.run_bind, Sem.run_pure, Result.andThen_ok, Builtin.copy_, List.getElem?_toArray, List.getElem?_cons_zero, List.getElem?_cons_succ, run_under hu, run_sizeOf hi, Builtin.lenOf, hf, hst]
            rfl
        · exact hv.elim
      · exact hv.elim
    · exact pure_ok _ rfl hv
  case convert src dst' x =>
    by_cases hsl : ∃ ad l c, f.ev x = some (.slice ad l c)
    · obtain ⟨ad, l, c, hx⟩ := hsl
      simp only [VOpV, hx] at hv
      split at hv
      · rename_i e hu hd
        split at hv
        · rename_i he
          obtain ⟨ns, h1, h2, hv⟩ := hv.out
          have hrun : (Conv.bytesToString (.slice ad l c)).run P w = .ok (.string (bstr ns)) w := by
            cases ad with
            | none =>
              have : ns = [] := by
                cases ns with
                | nil => rfl
                | cons v r => obtain ⟨_, _, e, _⟩ := h2 0 v rfl; cases e
              subst this
              rfl
            | some a0 =>
              have hl := run_loadCells_list (P := P) w a0 (ns.map (Value.int .u8)) (fun j v e => by
                obtain ⟨n, hn, rfl⟩ : ∃ n, ns[j]? = some n ∧ .int .u8 n = v := by simpa using e
                obtain ⟨b, o, e1, e2⟩ := h2 j n hn
                cases e1
                rw [cell_add, hw]
                exact e2)
              rw [List.length_map, h1] at hl
              rw [run_bytesToString w a0 l c ns hl]
              congr 2
              exact foldl_push_bstr ns
          refine wp_value (v := .string (bstr ns)) ?_ (hN _ _ hs (by rw [hw]; exact hv))
          simp only [execOp, hρ _ _ hx, Sem.run_bind, run_convert_bytes_string w src dst' e ad l c hu he hd, hrun, Result.andThen_ok, Sem.run_pure]
        · exact hv.elim
      · exact hv.elim
    · refine pure_ok _ rfl ?_
      simp only [VOpV] at hv
      split at hv
      · rename_i ad l c e; exact absurd ⟨_, _, _, e⟩ hsl
      · exact hv
  case makeMap t r =>
    simp only [VOpV] at hv
    split at hv
    · have hv := hv.out
      subst hw
      refine wp_value (v := .map (some w.heap.size)) (w' := { w with heap := w.heap.push (.map #[] 0) }) ?_ (hN _ _ ⟨rfl, rfl, rfl⟩ (by simpa using hv))
      simp only [execOp, Option.map_none, Instr.makeMap, newObj, Sem.run_bind, Sem.run, Result.andThen_ok, Sem.run_pure]
    · exact hv.elim
  case range t x =>
    simp only [VOpV] at hv
    split at hv
    · rename_i kt et m hu hx
      obtain ⟨es, c, hb, hn⟩ := hv.out
      have hn := hn.out
      subst hw
      refine wp_value (v := .pointer (some ⟨w.heap.size, 0, none⟩)) (w' := { w with heap := w.heap.push (.mapIter (some m) c #[] c) }) ?_ (hN _ _ ⟨rfl, rfl, rfl⟩ hn)
      simp only [execOp, hρ _ _ hx, Instr.range, Sem.run_bind, run_under hu, MapKept.run_getObj_map hb, Result.andThen_ok, Sem.run_pure, newObj, Sem.run]
    · exact hv.elim
  case next it isS =>
    simp only [VOpV] at hv
    split at hv
    · rename_i r hx
      obtain ⟨m, since, seen, last, es, clock, hr, hm, hold, hsc, k0, k1⟩ := hv.out
      subst hw
      rcases run_next (P := P) ty hr hm hold hsc with ⟨h0, hrun⟩ | ⟨e, he, w1, e1, hsw, hrun⟩
      · refine wp_value (v := .tuple #[.bool false]) ?_ (hN _ _ hs (k0 h0))
        simp only [execOp, hρ _ _ hx, Sem.run_bind, hrun, Result.andThen_ok, Sem.run_pure]
      · refine wp_value (v := .tuple #[.bool true, e.key, e.val]) (w' := { w1 with heap := w1.heap.setIfInBounds r (.mapIter (some m) since (seen.push e.born) clock) }) ?_ (hN _ _ ⟨hsw.os, hsw.tape, hsw.output⟩ (k1 e he _ ?_))
        · simp only [execOp, hρ _ _ hx, Sem.run_bind, hrun, Result.andThen_ok, Sem.run_pure]
        · rw [e1]
          exact ⟨by simp, (MapKept.heap_set hr).1, fun k hne => (MapKept.heap_set hr).2 k hne⟩
    · exact hv.elim
  case entry it =>
    simp only [VOpV] at hv
    split at hv
    · rename_i r hx
      obtain ⟨m, since, seen, clock, es, e, hr, hm, he, hn, hk⟩ := hv.out
      subst hw
      have hf : es.find? (·.born == e.born) = some e := by rw [← Array.find?_toList]; exact find_born e es.toList hn he
      refine wp_value (v := .tuple #[e.key, e.val]) ?_ (hN _ _ hs hk)
      simp only [execOp, hρ _ _ hx, Instr.entry, Sem.run_bind, getObj, Sem.run, hr, hm, Result.andThen, Array.back?_push, bne_self_eq_false, Bool.false_eq_true, if_false, hf]
      rfl
    · exact hv.elim
  case lookup t x i ok =>
    simp only [VOpV] at hv
    split at hv
    · rename_i kt et r key hu hx hi
      obtain ⟨inf, hinf, hv⟩ := infoK_ok hv
      split at hv
      · rename_i z hz
        have hzv : ∀ w, (zeroValue et).run P w = .ok z w := fun w => by simp [zeroValue, run_info hinf, hz]
        have main : ∀ {K : Value → Bool → Prop}, EvLook P kt z h r key K → ∃ v b, K v b ∧ (Instr.lookup t (.map (some r)) key ok).run P w = .ok (if ok then .tuple #[v, .bool b] else v) w := by
          intro K hv
          obtain ⟨es, c, d, hb, hd, hk, hks, k1, k2⟩ := hv.out
          rw [← hw] at hb
          rcases MapKept.findNow_spec hk es.toList 0 hks with ⟨h1, h2⟩ | ⟨j, e, h1, h2, h3⟩
          · refine ⟨z, false, k1 h2, ?_⟩
            simp only [Instr.lookup, Sem.run_bind, run_under hu, Result.andThen_ok, MapKept.run_getObj_map hb, Sem.run_pure, MapKept.run_checkKey hd hk, MapKept.run_findKey hd h1, hzv]
          · refine ⟨e.val, true, k2 e (List.mem_of_getElem? h2) h3, ?_⟩
            simp only [Instr.lookup, Sem.run_bind, run_under hu, Result.andThen_ok, MapKept.run_getObj_map hb, Sem.run_pure, MapKept.run_checkKey hd hk, MapKept.run_findKey hd h1]
        split at hv
        · obtain ⟨v, b, hk, hrun⟩ := main hv
          refine wp_value (v := .tuple #[v, .bool b]) ?_ (hN _ _ hs (by rw [hw]; exact hk))
          simp only [execOp, hρ _ _ hx, hρ _ _ hi, Sem.run_bind, hrun, Result.andThen_ok, Sem.run_pure, if_true]
        · obtain ⟨v, b, hk, hrun⟩ := main hv
          refine wp_value (v := v) ?_ (hN _ _ hs (by rw [hw]; exact hk))
          simp only [execOp, hρ _ _ hx, hρ _ _ hi, Sem.run_bind, hrun, Result.andThen_ok, Sem.run_pure, Bool.false_eq_true, if_false]
      · exact hv.elim
    · exact hv.elim
  case mapUpdate t m k x =>
    simp only [VOpV] at hv
    split at hv
    · rename_i kt et r key v hu hm hk0 hx
      obtain ⟨es, c, d, hb, hd, hk, hks, k1, k2⟩ := hv.out
      subst hw
      have upd : ∀ o', Upd w.heap r o' (w.heap.setIfInBounds r o') := fun o' => ⟨by simp, (MapKept.heap_set hb).1, fun k hne => (MapKept.heap_set hb).2 k hne⟩
      rcases MapKept.findNow_spec hk es.toList 0 hks with ⟨h1, h2⟩ | ⟨j, e, h1, h2, h3⟩
      · refine wp_skip' (w' := { w with heap := w.heap.setIfInBounds r (.map (es.push { key := key, val := v, born := c }) (c + 1)) }) ?_ (hN _ _ ⟨rfl, rfl, rfl⟩ (k1 h2 _ (upd _)))
        simp only [execOp, hρ _ _ hm, hρ _ _ hk0, hρ _ _ hx, Instr.mapUpdate, Sem.run_bind, run_under hu, Result.andThen_ok, MapKept.run_getObj_map hb, MapKept.run_checkKey hd hk, MapKept.run_findKey hd h1, MapKept.run_setObj_map _ hb, Sem.run_pure]
      · have hj : es[j]? = some e := by simpa using h2
        refine wp_skip' (w' := { w with heap := w.heap.setIfInBounds r (.map (es.modify j fun e => { e with key := key, val := v }) c) }) ?_ (hN _ _ ⟨rfl, rfl, rfl⟩ (k2 j e hj h3 _ (upd _)))
        simp only [execOp, hρ _ _ hm, hρ _ _ hk0, hρ _ _ hx, Instr.mapUpdate, Sem.run_bind, run_under hu, Result.andThen_ok, MapKept.run_getObj_map hb, MapKept.run_checkKey hd hk, MapKept.run_findKey hd h1, Nat.zero_add, hj, Option.map_some, Option.getD_some, h3, MapKept.run_keyThatStays hk, MapKept.run_setObj_map _ hb, Sem.run_pure]
    · exact hv.elim
  all_goals exact pure_ok _ rfl (by simpa only [VOpV] using hv)
end
section
variable {P : Program} {n : Nat}
def Look (f : Fr) (a : Act) (ts : List Tmp) : Prop := ∀ t ∈ ts, ∀ u, f.get t = some u → a.tmps.getD t undef = u
theorem notSelect {o : Oper} {C : Value → Hp → Prop} {f : Fr} {h : Hp} (hv : VOpV P o C f h) : ∀ cs b, o.op ≠ .select cs b := by
  intro cs b e
  unfold VOpV at hv
  rw [e] at hv
  exact hv
theorem notDefer {o : Oper} {C : Value → Hp → Prop} {f : Fr} {h : Hp} (hv : VOpV P o C f h) : ∀ c, o.op ≠ .defer c := by
  intro c e
  unfold VOpV at hv
  rw [e] at hv
  exact hv
def asB : Value → Option Bool
  | .bool b => some b
  | _ => none
theorem yield_at {all : Array Oper} {f : Fr} {a : Act} {j d : Nat} {oj : Oper} (hj : all[j]? = some oj) (hd : oj.dst = some d) {v : Value} (hv : f.get d = some v) (ha : a.tmps.getD d undef = v) :
    yielded all a.tmps j = asB v := by
  simp only [yielded, hj, hd, Option.bind_some]
  rw [Array.getD_eq_getD_getElem?] at ha
  cases hq : a.tmps[d]? with
  | none => rw [hq] at ha; simp only [Option.getD_none] at ha; subst ha; rfl
  | some u => rw [hq] at ha; simp only [Option.getD_some] at ha; subst ha; cases u <;> rfl
theorem wp_of_look {all : Array Oper} {o : Oper} {C : Value → Hp → Prop} {f : Fr} {h : Hp} (hv : VOpV P o C f h) {a : Act} (hl : Look f a (o.looksAt all)) {w : World} (hw : w.heap = h) {N : Act → World → Prop}
    (hN : ∀ v w', Same w w' → C v w'.heap → N (a.put o.dst v) w') {Q : Exit → Act → World → Prop} {ro : Option Nat} {fd : Nat} : o.wpIn (FR ro) fd P a w N Q := by
  have hρ : ∀ x v, f.ev x = some v → (fun x => (f.ev x).getD (a.eval x)) x = v := by
    intro x v hx
    simp [hx]
  have e : execOp a.eval o = execOp (fun x => (f.ev x).getD (a.eval x)) o := by
    refine execOp_congr o (notSelect hv) (fun x hx => ?_)
    cases hx' : f.ev x with
    | none => simp
    | some u =>
      simp only [Option.getD_some]
      cases x with
      | tmp t => exact hl t (List.mem_append_left _ (List.mem_filterMap.2 ⟨.tmp t, by simpa using hx, rfl⟩)) u hx'
      | const c => simpa [Fr.ev, Act.eval] using hx'
      | global c => simpa [Fr.ev, Act.eval] using hx'
      | func c => simpa [Fr.ev, Act.eval] using hx'
  unfold Oper.wpIn
  refine ⟨fun _ _ => trivial, ?_⟩
  rw [Oper.semAt_eq _ _ _ (notDefer hv), e]
  exact vopv_ok hv hρ hw hN
/-- the frame of a step's end: the guard's answer may have been written out -/
def Ext1 (f f1 : Fr) : Prop := ∀ t, f1.get t = f.get t
theorem Ext1.refl (f : Fr) : Ext1 f f := fun _ => rfl
theorem Ext1.bool {f : Fr} {d : Nat} {v : Value} (h : f.get d = some v) : Ext1 f ((d, v) :: f) := by
  intro t
  rw [Fr.get_cons]
  by_cases e : d = t
  · subst e; rw [if_pos rfl, h]
  · rw [if_neg e]
theorem vstepv_ok {ro : Option Nat} {fd : Nat} {all : Array Oper} {Q : Exit → Act → World → Prop} {C : Fr → Value → Hp → Prop} {i : Nat} {o : Oper} (ho : all[i]? = some o) {f : Fr} {h : Hp} (hv : VStepV P all.toList o C f h)
    {a : Act} (hl : Look f a (o.looksAt all)) {w : World} (hw : w.heap = h) {N : Act → World → Prop} (hN : ∀ f1 v w', Ext1 f f1 → Same w w' → C f1 v w'.heap → N (a.put o.dst v) w') : wpOpIn (FR ro) fd P all Q i N a w := by
  unfold wpOpIn
  simp only [ho]
  have go : ∀ (f1 : Fr), Ext1 f f1 → VOpV P o (C f1) f1 h → Region.wanted o (yielded all a.tmps) = true → (if Region.wanted o (yielded all a.tmps) = true then o.wpIn (FR ro) fd P a w N Q else (∀ f, o.about P w a.eval = some f → (FR ro).fn f) ∧ N (a.put o.dst undef) w) := by
    intro f1 he hv hwant
    simp only [hwant, if_true]
    exact (wp_of_look hv (fun t ht u hu => hl t ht u (by rw [← he t]; exact hu)) hw (fun v w' hs hc => hN f1 v w' he hs hc))
  have skip : ∀ (f1 : Fr), Ext1 f f1 → C f1 undef h → Region.wanted o (yielded all a.tmps) = false → (if Region.wanted o (yielded all a.tmps) = true then o.wpIn (FR ro) fd P a w N Q else (∀ f, o.about P w a.eval = some f → (FR ro).fn f) ∧ N (a.put o.dst undef) w) := by
    intro f1 he hv hwant
    simp only [hwant, if_false, Bool.false_eq_true]
    exact ⟨fun _ _ => trivial, hN _ _ _ he (Same.refl w) (by rw [hw]; exact hv)⟩
  unfold VStepV at hv
  split at hv
  · rename_i hg
    exact go f (Ext1.refl f) hv (by simp [Region.wanted, hg])
  · rename_i j want hg
    split at hv
    · rename_i oj hj
      have hj' : all[j]? = some oj := by simpa using hj
      split at hv
      · rename_i d hdj
        have hdl : d ∈ o.looksAt all := List.mem_append_right _ (by simp [hg, hj', hdj])
        split at hv
        · rename_i t ht
          obtain ⟨h1, h2⟩ := hv
          have hyt := yield_at hj' hdj ht (hl d hdl _ ht)
          simp only [asB] at hyt
          cases t with
          | true =>
            have h1 := h1 rfl
            cases want with
            | true => exact go _ (Ext1.bool ht) h1 (by simp [Region.wanted, hg, hyt])
            | false => exact skip _ (Ext1.bool ht) h1 (by simp [Region.wanted, hg, hyt])
          | false =>
            have h2 := h2 rfl
            cases want with
            | true => exact skip _ (Ext1.bool ht) h2 (by simp [Region.wanted, hg, hyt])
            | false => exact go _ (Ext1.bool ht) h2 (by simp [Region.wanted, hg, hyt])
        · rename_i vs ht
          split at hv
          · rename_i hvs
            have hyt := yield_at hj' hdj ht (hl d hdl _ ht)
            simp only [asB] at hyt
            exact skip f (Ext1.refl f) hv (by simp [Region.wanted, hg, hyt])
          · exact hv.elim
        · exact hv.elim
      · exact hv.elim
    · exact hv.elim
theorem Ag.ext {f f1 : Fr} {a : Act} (ha : Ag n f a) (he : Ext1 f f1) : Ag n f1 a := ⟨ha.1, fun t v h => ha.2 t v (by rw [← he t]; exact h)⟩
theorem Ag.look {f : Fr} {a : Act} (ha : Ag n f a) (ts : List Tmp) : Look f a ts := fun t _ u hu => ha.2 t u hu
theorem vops_ok {ro : Option Nat} {fd : Nat} {all : Array Oper} {Q : Exit → Act → World → Prop} (d0 : List Deferred) (w0 : World) {K : Fr → Hp → Prop} (hQ : ∀ a' w', Nx n K d0 w0 a' w' → Q .normal a' w') :
    ∀ (l : List Oper) (k : Nat) (f : Fr) (h : Hp), (∀ j, l[j]? = all[k + j]?) → VOps P n all.toList l K f h → ∀ (a : Act) (w : World), Ag n f a → a.defers = d0 → Same w0 w → w.heap = h →
      wpOpsIn (FR ro) fd P all Q ((List.range l.length).map (k + ·)) a w
  | [], k, f, h, _, hv, a, w, ha, hd, hs, hw => by
    simp only [VOps] at hv
    subst hw
    exact hQ a w ⟨f, ha, hd, hs, hv⟩
  | o :: rest, k, f, h, hl, hv, a, w, ha, hd, hs, hw => by
    have ho : all[k]? = some o := by have := hl 0; simpa using this.symm
    have hl' : ∀ j, rest[j]? = all[k + 1 + j]? := fun j => by have := hl (j + 1); simp only [List.getElem?_cons_succ] at this; rw [this]; congr 1; omega
    have hlist : (List.range (o :: rest).length).map (k + ·) = k :: (List.range rest.length).map (k + 1 + ·) := by
      simp only [List.length_cons, List.range_succ_eq_map, List.map_cons, List.map_map, Nat.add_zero]
      congr 1
      apply List.map_congr_left
      intro x _
      simp; omega
    rw [hlist, wpOpsIn_cons]
    have ih := vops_ok (ro := ro) (fd := fd) (all := all) d0 w0 hQ rest (k + 1)
    simp only [VOps] at hv
    refine vstepv_ok ho hv (ha.look _) hw ?_
    rintro f1 v w' he hs' hk
    obtain ⟨f', ha', hd', hs2, hk⟩ := putF_ok hk (ha.ext he) (hs.trans hs') rfl
    exact ih f' w'.heap hl' hk _ w' ha' (hd'.trans hd) hs2 rfl
theorem vregion_ok {id : Nat} {ops : Array Oper} {K : Fr → Hp → Prop} {f : Fr} {h : Hp} (hv : VOps P n ops.toList ops.toList K f h) :
    SVC P n (.region id ops false) (fun e f h => match e with | .normal => K f h | _ => False) f h := by
  intro ro fd a w ha hw
  refine wpIn_region ?_
  have := vops_ok (ro := ro) (fd := fd) (P := P) (n := n) (all := ops) (Q := Pst n (fun e f h => match e with | .normal => K f h | _ => False) a.defers w) a.defers w (K := K) (fun a' w' ⟨f', h1, h2, h3, h4⟩ => ⟨f', trivial, h1, h2, h3, h4⟩)
    ops.toList 0 f h (fun j => by simp) hv a w ha rfl (Same.refl w) hw
  simpa using this
end
section
variable {P : Program} {n : Nat}
theorem SVC.mono {c : Code} {K K' : Exit → Fr → Hp → Prop} {f : Fr} {h : Hp} (s : SVC P n c K f h) (hk : ∀ e f h, K e f h → K' e f h) : SVC P n c K' f h :=
  fun ro fd a w ha hw => wpIn_mono (s ro fd a w ha hw) fun _ _ _ ⟨f', a1, a2, a3, a4, a5⟩ => ⟨f', a1, a2, a3, a4, hk _ _ _ a5⟩
theorem SVC.seq {x y : Code} {K : Exit → Fr → Hp → Prop} {f : Fr} {h : Hp} (s : SVC P n x (fun e f h => match e with | .normal => SVC P n y K f h | e => K e f h) f h) : SVC P n (.seq x y) K f h := by
  intro ro fd a w ha hw
  refine wpIn_seq (wpIn_mono (s ro fd a w ha hw) ?_)
  rintro e a' w' ⟨f', fine, ha', hd, hs, hk⟩
  cases e with
  | normal =>
    refine wpIn_mono (hk ro fd a' w' ha' rfl) ?_
    rintro e2 a2 w2 ⟨f2, q1, q2, q3, q4, q5⟩
    exact ⟨f2, q1, q2, q3.trans hd, hs.trans q4, q5⟩
  | exit id => exact ⟨f', fine, ha', hd, hs, hk⟩
  | ret => exact ⟨f', fine, ha', hd, hs, hk⟩
  | goto l => exact fine.elim
  | panic ch => exact fine.elim
  | outgrown => exact fine.elim
theorem Ag.setBool {f : Fr} {a : Act} (ha : Ag n f a) {c : Operand} {t : Bool} (hc : f.ev c = some (.bool t)) : Ag n (setB f c t) a := by
  cases c with
  | tmp d => exact ha.same hc
  | const v => exact ha
  | global g => exact ha
  | func i => exact ha
theorem vc_ok : ∀ {c : Code} {K : Exit → Fr → Hp → Prop} {f : Fr} {h : Hp}, VC P n c K f h → SVC P n c K f h := by
  intro c
  induction c with
  | skip => exact fun hv ro fd a w ha hw => wpIn_skip ⟨_, trivial, ha, rfl, Same.refl _, by subst hw; exact hv⟩
  | label l => exact fun hv ro fd a w ha hw => wpIn_label ⟨_, trivial, ha, rfl, Same.refl _, by subst hw; exact hv⟩
  | exit id => exact fun hv ro fd a w ha hw => wpIn_exit ⟨_, trivial, ha, rfl, Same.refl _, by subst hw; exact hv⟩
  | ret => exact fun hv ro fd a w ha hw => wpIn_ret ⟨_, trivial, ha, rfl, Same.refl _, by subst hw; exact hv⟩
  | region id ops draw =>
    intro K f h hv
    cases draw with
    | false => exact (vregion_ok hv).mono fun e f h hk => by cases e <;> first | exact hk | exact hk.elim
    | true => exact hv.out.mono fun e f h hk => by cases e <;> first | exact hk | exact hk.elim
  | seq x y ihx ihy =>
    intro K f h hv
    simp only [VC] at hv
    split at hv
    · exact SVC.seq ((ihx hv).mono fun e f h hk => by cases e <;> first | exact ihy hk | exact hk)
    · exact hv.out
  | cond c x y ihx ihy =>
    intro K f h hv
    simp only [VC] at hv
    split at hv
    · rename_i t ht
      obtain ⟨h1, h2⟩ := hv
      intro ro fd a w ha hw
      refine wpIn_cond_split (ha.ev _ _ ht) (fun e => ?_) (fun e => ?_)
      · subst e; exact ihx (h1 rfl) ro fd a w (ha.setBool ht) hw
      · subst e; exact ihy (h2 rfl) ro fd a w (ha.setBool ht) hw
    · exact hv.elim
  | block id c ih =>
    intro K f h hv
    simp only [VC] at hv
    intro ro fd a w ha hw
    refine wpIn_block (wpIn_mono (ih hv ro fd a w ha hw) ?_)
    rintro e a' w' ⟨f', fine, ha', hd, hs, hk⟩
    cases e with
    | exit i =>
      simp only [Exit.inBlock]
      by_cases e : i = id
      · subst e
        simp only [Nat.beq_refl] at hk
        rw [if_pos rfl]
        exact ⟨f', trivial, ha', hd, hs, hk⟩
      · rw [if_neg e]
        have : Nat.beq i id = false := by
          cases hb : Nat.beq i id with
          | false => rfl
          | true => exact absurd (Nat.eq_of_beq_eq_true hb) e
        simp only [this] at hk
        exact ⟨f', trivial, ha', hd, hs, hk⟩
    | normal => exact ⟨f', fine, ha', hd, hs, hk⟩
    | ret => exact ⟨f', fine, ha', hd, hs, hk⟩
    | goto l => exact fine.elim
    | panic ch => exact fine.elim
    | outgrown => exact fine.elim
  | loop c ih => exact fun hv => hv.out
  | rangeFunc f p x y ih1 ih2 => exact fun hv => hv.out
  | scope c ih => exact fun hv => hv.out
  | goto l => exact fun hv => hv.out
  | refuse why => exact fun hv => hv.out
end
section
variable {P : Program} {n : Nat}
def SubK (f : Fr) : Fr → Prop
  | [] => True
  | (t, v) :: r => f.get t = some v ∧ SubK f r
theorem SubK.get {f : Fr} : ∀ {g : Fr}, SubK f g → ∀ t v, g.get t = some v → f.get t = some v
  | [], _, t, v, h => by cases h
  | (d, u) :: r, hs, t, v, h => by
    rw [Fr.get_cons] at h
    by_cases e : d = t
    · subst e; rw [if_pos rfl] at h; cases h; exact hs.1
    · rw [if_neg e] at h; exact SubK.get hs.2 t v h
theorem SubK.ag {f g : Fr} {a : Act} (hs : SubK f g) (ha : Ag n f a) : Ag n g a := ⟨ha.1, fun t v h => ha.2 t v (hs.get t v h)⟩
/-- a loop -/
theorem EvLoop.rule {c : Code} {K : Exit → Fr → Hp → Prop} {f : Fr} {h : Hp} {α : Type} (F : α → Fr) (I : α → Hp → Prop) (μ : α → Nat) (x0 : α) (hF : SubK f (F x0)) (h0 : I x0 h)
    (round : ∀ x h, I x h → VC P n c (fun e f' h' => match e with | .normal => ∃ x', SubK f' (F x') ∧ I x' h' ∧ μ x' < μ x | e => K e f' h') (F x) h) : EvLoop P n c K f h := by
  refine ⟨fun ro fd a w ha hw => ?_⟩
  refine wpIn_loop (fun a' w' => ∃ x, Ag n (F x) a' ∧ I x w'.heap ∧ a'.defers = a.defers ∧ Same w w')
    (fun a' w' => Classical.epsilon fun m => ∃ x, Ag n (F x) a' ∧ I x w'.heap ∧ m = μ x ∧ ∀ y, Ag n (F y) a' → I y w'.heap → μ x ≤ μ y) ?_ ?_
  · exact ⟨x0, hF.ag ha, by rw [hw]; exact h0, rfl, Same.refl w⟩
  · rintro a1 w1 ⟨x1, hx1, hi1, hd1, hs1⟩
    -- the least measure
    have least : ∀ (a' : Act) (w' : World), (∃ x, Ag n (F x) a' ∧ I x w'.heap) → ∃ x, Ag n (F x) a' ∧ I x w'.heap ∧ ∀ y, Ag n (F y) a' → I y w'.heap → μ x ≤ μ y := by
      intro a' w' ⟨x, hx⟩
      have : ∀ m, ∀ x, μ x = m → Ag n (F x) a' ∧ I x w'.heap → ∃ x, Ag n (F x) a' ∧ I x w'.heap ∧ ∀ y, Ag n (F y) a' → I y w'.heap → μ x ≤ μ y := by
        intro m
        induction m using Nat.strongRecOn with
        | _ m ih =>
          intro x hm hx
          by_cases hc : ∃ y, Ag n (F y) a' ∧ I y w'.heap ∧ μ y < μ x
          · obtain ⟨y, h1, h2, h3⟩ := hc
            exact ih (μ y) (hm ▸ h3) y rfl ⟨h1, h2⟩
          · exact ⟨x, hx.1, hx.2, fun y h1 h2 => Nat.le_of_not_lt fun h3 => hc ⟨y, h1, h2, h3⟩⟩
      exact this _ x rfl hx
    have eps : ∀ (a' : Act) (w' : World), (∃ x, Ag n (F x) a' ∧ I x w'.heap) → ∃ x, Ag n (F x) a' ∧ I x w'.heap ∧
        (Classical.epsilon fun m => ∃ x, Ag n (F x) a' ∧ I x w'.heap ∧ m = μ x ∧ ∀ y, Ag n (F y) a' → I y w'.heap → μ x ≤ μ y) = μ x ∧ ∀ y, Ag n (F y) a' → I y w'.heap → μ x ≤ μ y := by
      intro a' w' hex
      have := Classical.epsilon_spec (p := fun m => ∃ x, Ag n (F x) a' ∧ I x w'.heap ∧ m = μ x ∧ ∀ y, Ag n (F y) a' → I y w'.heap → μ x ≤ μ y) (by
        obtain ⟨x, q1, q2, q3⟩ := least a' w' hex
        exact ⟨μ x, x, q1, q2, rfl, q3⟩)
      obtain ⟨x, q1, q2, q3, q4⟩ := this
      exact ⟨x, q1, q2, q3, q4⟩
    obtain ⟨x, q1, q2, q3, q4⟩ := eps a1 w1 ⟨x1, hx1, hi1⟩
    refine wpIn_mono (vc_ok (round x w1.heap q2) ro fd a1 w1 q1 rfl) ?_
    rintro e a2 w2 ⟨f2, fine, p1, p2, p3, p4⟩
    cases e with
    | normal =>
      obtain ⟨x', s1, s2, s3⟩ := p4
      have hx' := s1.ag p1
      refine ⟨⟨x', hx', s2, p2.trans hd1, hs1.trans p3⟩, ?_⟩
      obtain ⟨y, r1, r2, r3, r4⟩ := eps a2 w2 ⟨x', hx', s2⟩
      show (Classical.epsilon _) < (Classical.epsilon _)
      rw [r3, q3]
      exact Nat.lt_of_le_of_lt (r4 x' hx' s2) s3
    | exit id => exact ⟨f2, fine, p1, p2.trans hd1, hs1.trans p3, p4⟩
    | ret => exact ⟨f2, fine, p1, p2.trans hd1, hs1.trans p3, p4⟩
    | goto l => exact fine.elim
    | panic ch => exact fine.elim
    | outgrown => exact fine.elim
/-- a loop whose exits meet -/
theorem EvLoop.cut {c : Code} {K : Exit → Fr → Hp → Prop} {f : Fr} {h : Hp} (id : Nat) {α β : Type} (F : α → Fr) (I : α → Hp → Prop) (μ : α → Nat) (L : β → Fr) (J : β → Hp → Prop) (x0 : α) (hF : SubK f (F x0)) (h0 : I x0 h)
    (round : ∀ x h, I x h → VC P n c (fun e f' h' => match e with
      | .normal => ∃ x', SubK f' (F x') ∧ I x' h' ∧ μ x' < μ x
      | .exit i => match Nat.beq i id with
        | true => ∃ y, SubK f' (L y) ∧ J y h'
        | false => K (.exit i) f' h'
      | e => K e f' h') (F x) h)
    (rest : ∀ y h, J y h → K (.exit id) (L y) h) : EvLoop P n c K f h := by
  refine ⟨fun ro fd a w ha hw => ?_⟩
  refine wpIn_mono ((EvLoop.rule (K := fun e f' h' => match e with
      | .exit i => match Nat.beq i id with
        | true => ∃ y, SubK f' (L y) ∧ J y h'
        | false => K (.exit i) f' h'
      | e => K e f' h') F I μ x0 hF h0 (fun x h hi => ?_)).out ro fd a w ha hw) ?_
  · have := round x h hi
    refine cast ?_ this
    congr 1
    funext e f' h'
    cases e <;> rfl
  · rintro e a' w' ⟨f', fine, p1, p2, p3, p4⟩
    cases e with
    | exit i =>
      simp only at p4
      split at p4
      · rename_i hb
        have hb := Nat.eq_of_beq_eq_true hb
        subst hb
        obtain ⟨y, s1, s2⟩ := p4
        exact ⟨L y, trivial, s1.ag p1, p2, p3, rest y _ s2⟩
      · exact ⟨f', trivial, p1, p2, p3, p4⟩
    | normal => exact ⟨f', fine, p1, p2, p3, p4⟩
    | ret => exact ⟨f', fine, p1, p2, p3, p4⟩
    | goto l => exact fine.elim
    | panic ch => exact fine.elim
    | outgrown => exact fine.elim
theorem EvSeq.go {x y : Code} {K : Exit → Fr → Hp → Prop} {f : Fr} {h : Hp} (hv : VC P n x (fun e f h => match e with | .normal => VC P n y K f h | e => K e f h) f h) : EvSeq P n x y K f h :=
  ⟨SVC.seq ((vc_ok hv).mono fun e f h hk => by cases e <;> first | exact vc_ok hk | exact hk)⟩
theorem EvSeq.cut {x y : Code} {K : Exit → Fr → Hp → Prop} {f : Fr} {h : Hp} {α : Type} (F : α → Fr) (I : α → Hp → Prop)
    (h1 : VC P n x (fun e f' h' => match e with | .normal => ∃ x, SubK f' (F x) ∧ I x h' | e => K e f' h') f h)
    (h2 : ∀ x h, I x h → VC P n y K (F x) h) : EvSeq P n x y K f h := by
  refine ⟨fun ro fd a w ha hw => ?_⟩
  refine wpIn_seq (wpIn_mono (vc_ok h1 ro fd a w ha hw) ?_)
  rintro e a' w' ⟨f', fine, p1, p2, p3, p4⟩
  cases e with
  | normal =>
    obtain ⟨z, s1, s2⟩ := p4
    refine wpIn_mono (vc_ok (h2 z _ s2) ro fd a' w' (s1.ag p1) rfl) ?_
    rintro e2 a2 w2 ⟨f2, q1, q2, q3, q4, q5⟩
    exact ⟨f2, q1, q2, q3.trans p2, p3.trans q4, q5⟩
  | exit id => exact ⟨f', fine, p1, p2, p3, p4⟩
  | ret => exact ⟨f', fine, p1, p2, p3, p4⟩
  | goto l => exact fine.elim
  | panic ch => exact fine.elim
  | outgrown => exact fine.elim
def initFr : Nat → List Value → Fr
  | _, [] => []
  | k, v :: r => (k, v) :: initFr (k + 1) r
def VRes (P : Program) (h : Hp) (f : Fr) : List ResultVar → (List Value → Prop) → Prop
  | [], K => K []
  | .tmp t :: r, K => match f.get t with
    | some v => VRes P h f r fun l => K (v :: l)
    | none => False
  | .cell x t :: r, K => match f.get x, P.underlying t with
    | some (.pointer (some ⟨b, o, none⟩)), some d => match isAggD d with
      | true => infoK P t fun size _ _ => EvLdN h b o size fun vs => VRes P h f r fun l => K (.agg vs.toArray :: l)
      | false => EvLd h b o fun v => VRes P h f r fun l => K (v :: l)
    | _, _ => False
def VEnd (P : Program) (rs : Array ResultVar) (R : Value → Hp → Prop) : Exit → Fr → Hp → Prop :=
  fun e f h =>
    match e with
    | .normal => VRes P h f rs.toList fun vs => match vs with | [v] => R v h | vs => R (.tuple vs.toArray) h
    | .ret => VRes P h f rs.toList fun vs => match vs with | [v] => R v h | vs => R (.tuple vs.toArray) h
    | _ => False
theorem vres_ok {f : Fr} {a : Act} (ha : Ag n f a) (w : World) : ∀ {rs : List ResultVar} {K : List Value → Prop}, VRes P w.heap f rs K →
    ∃ vs, (rs.mapM fun | .tmp t => pure (a.tmps.getD t undef) | .cell x t => do loadVar t (← asAddr (a.tmps.getD x undef)) : Sem (List Value)).run P w = .ok vs w ∧ vs.length = rs.length ∧ K vs
  | [], K, h => ⟨[], by simp, rfl, h⟩
  | .tmp t :: r, K, h => by
    simp only [VRes] at h
    split at h
    · rename_i v hx
      obtain ⟨vs, e, el, h⟩ := vres_ok ha w h
      refine ⟨v :: vs, ?_, by simp [el], h⟩
      simp only [List.mapM_cons, Sem.run_bind, ha.2 t v hx, Sem.run_pure, Result.andThen_ok, e]
    · exact h.elim
  | .cell x t :: r, K, h => by
    simp only [VRes] at h
    split at h
    · rename_i b o d hx hu
      have hx' := ha.2 x _ hx
      split at h
      · rename_i hd
        obtain ⟨i, hi, h⟩ := infoK_ok h
        · obtain ⟨us, l1, l2, h⟩ := h.out
          obtain ⟨vs, e, el, h⟩ := vres_ok ha w h
          refine ⟨_ :: vs, ?_, by simp [el], h⟩
          have := run_loadCells_list (P := P) w ⟨b, o, none⟩ us (fun j v e => by rw [cell_add]; exact l2 j v e)
          have h1 : (do loadVar t (← asAddr (a.tmps.getD x undef)) : Sem Value).run P w = .ok (.agg us.toArray) w := by
            simp only [Sem.run_bind, hx', asAddr, Sem.run_pure, Result.andThen_ok, loadVar, run_isAgg hu, hd, if_true, run_sizeOf hi, ← l1, this]
          rw [List.mapM_cons, Sem.run_bind]
          show ((Sem.run P (do loadVar t (← asAddr (a.tmps.getD x undef))) w).andThen _) = _
          rw [h1]
          simp only [Result.andThen_ok, Sem.run_bind, e, Sem.run_pure]
      · rename_i hd
        obtain ⟨v, l1, h⟩ := h.out
        obtain ⟨vs, e, el, h⟩ := vres_ok ha w h
        refine ⟨v :: vs, ?_, by simp [el], h⟩
        have l1' : w.cell? ⟨b, o, none⟩ = some v := by rw [cell_h]; exact l1
        have h1 : (do loadVar t (← asAddr (a.tmps.getD x undef)) : Sem Value).run P w = .ok v w := by
          simp only [Sem.run_bind, hx', asAddr, Sem.run_pure, Result.andThen_ok, loadVar, run_isAgg hu, hd, Bool.false_eq_true, if_false, run_load, l1']
        rw [List.mapM_cons, Sem.run_bind]
        show ((Sem.run P (do loadVar t (← asAddr (a.tmps.getD x undef))) w).andThen _) = _
        rw [h1]
        simp only [Result.andThen_ok, Sem.run_bind, e, Sem.run_pure]
    · exact h.elim
theorem initFr_ok : ∀ (args : List Value) (k : Nat) (t : Nat) (v : Value), (initFr k args).get t = some v → k ≤ t ∧ args[t - k]? = some v
  | [], _, t, v, h => by cases h
  | u :: r, k, t, v, h => by
    simp only [initFr] at h
    rw [Fr.get_cons] at h
    by_cases e : k = t
    · subst e; rw [if_pos rfl] at h; cases h; simp
    · rw [if_neg e] at h
      obtain ⟨a, b⟩ := initFr_ok r (k + 1) t v h
      refine ⟨by omega, ?_⟩
      have : t - k = (t - (k + 1)) + 1 := by omega
      rw [this]
      simpa using b
theorem res_ok {fn : Func} {rs : Array ResultVar} {f' : Fr} {a' : Act} {R : Value → Hp → Prop} (hr : fn.results = rs) (p1 : Ag n f' a') (w' : World)
    (hk : VRes P w'.heap f' rs.toList fun vs => match vs with | [v] => R v w'.heap | vs => R (.tuple vs.toArray) w'.heap) : ∃ v, (results fn a'.tmps).run P w' = .ok v w' ∧ R v w'.heap := by
  obtain ⟨vs, e1, e2, hk⟩ := vres_ok p1 w' hk
  refine ⟨(if h : vs.length = 1 then vs[0] else .tuple vs.toArray), ?_, ?_⟩
  · simp only [results, hr]
    have e3 : (rs.mapM fun | .tmp t => pure (a'.tmps.getD t undef) | .cell x t => do loadVar t (← asAddr (a'.tmps.getD x undef)) : Sem (Array Value)).run P w' = .ok vs.toArray w' := by
      rw [Array.mapM_eq_mapM_toList]
      simp only [map_eq_pure_bind, Sem.run_bind, e1, Result.andThen_ok, Sem.run_pure]
    rw [Sem.run_bind]
    show ((Sem.run P (rs.mapM fun | .tmp t => pure (a'.tmps.getD t undef) | .cell x t => do loadVar t (← asAddr (a'.tmps.getD x undef)) : Sem (Array Value)) w').andThen _) = _
    rw [e3]
    rfl
  · cases vs with
    | nil => simpa using hk
    | cons x r => cases r with
      | nil => simpa using hk
      | cons y r => simpa using hk
theorem hc_of {i : FuncId} {fn : Func} {c : Code} {rs : Array ResultVar} {args : List Value} {h : Hp} {R : Value → Hp → Prop} (hf : P.funcs[i]? = some fn) (hb : fn.body = some c) (hn : fn.ntmps = n) (hr : fn.results = rs)
    (hcall : ∀ (args : Array Value) (w : World), (callFunc i args).run P w = .ok (.enter i args) w) (hlen : Nat.ble args.length n = true)
    (hv : VC P n c (VEnd P rs R) (initFr 0 args) h) : HC P i args h R := by
  refine ⟨hcall, fun w hw => calls_of_wp hf hb ?_⟩
  have hlen := Nat.le_of_ble_eq_true hlen
  have ha : Ag n (initFr 0 args) { tmps := args.toArray ++ Array.replicate (fn.ntmps - args.toArray.size) undef, defers := [] } := by
    refine ⟨by simp [hn]; omega, fun t v ht => ?_⟩
    obtain ⟨_, e⟩ := initFr_ok _ _ _ _ ht
    have hlt : t < args.length := by
      have := (List.getElem?_eq_some_iff.mp e).1
      omega
    rw [Array.getD_eq_getD_getElem?, Array.getElem?_append_left (by simpa using hlt)]
    simp at e
    simp [e]
  refine wp_mono ((wpIn_wide (n := 0)).1 (vc_ok hv none 0 _ w ha hw)) ?_
  rintro e a' w' ⟨f', fine, p1, p2, p3, p4⟩
  have fin : (VRes P w'.heap f' rs.toList fun vs => match vs with | [v] => R v w'.heap | vs => R (.tuple vs.toArray) w'.heap) → a'.defers = [] ∧ ∃ v, (results fn a'.tmps).run P w' = .ok v w' ∧ ∃ v', Ending.returned v = .returned v' ∧ Same w w' ∧ R v' w'.heap := by
    intro hk
    obtain ⟨vs, e1, e2, hk⟩ := vres_ok p1 w' hk
    refine ⟨p2, (if h : vs.length = 1 then vs[0] else .tuple vs.toArray), ?_, _, rfl, p3, ?_⟩
    · simp only [results, hr]
      have e3 : (rs.mapM fun | .tmp t => pure (a'.tmps.getD t undef) | .cell x t => do loadVar t (← asAddr (a'.tmps.getD x undef)) : Sem (Array Value)).run P w' = .ok vs.toArray w' := by
        rw [Array.mapM_eq_mapM_toList]
        simp only [map_eq_pure_bind, Sem.run_bind, e1, Result.andThen_ok, Sem.run_pure]
      rw [Sem.run_bind]
      show ((Sem.run P (rs.mapM fun | .tmp t => pure (a'.tmps.getD t undef) | .cell x t => do loadVar t (← asAddr (a'.tmps.getD x undef)) : Sem (Array Value)) w').andThen _) = _
      rw [e3]
      rfl
    · cases vs with
      | nil => simpa using hk
      | cons x r => cases r with
        | nil => simpa using hk
        | cons y r => simpa using hk
  cases e with
  | normal => exact fin p4
  | ret => exact fin p4
  | exit id => exact p4.elim
  | goto l => exact fine.elim
  | panic ch => exact fine.elim
  | outgrown => exact fine.elim
end
section
variable {P : Program} {n : Nat}
theorem defB_ok {f : Fr} : ∀ {l : List Operand}, defB f l = true → ∀ x ∈ l, ∃ u, f.ev x = some u
  | x :: r, h, y, hy => by
    simp only [defB] at h
    cases hx : f.ev x with
    | none => simp [hx] at h
    | some u =>
      simp only [hx] at h
      rcases List.mem_cons.mp hy with rfl | hy
      · exact ⟨u, hx⟩
      · exact defB_ok h y hy
theorem defC_ok {f : Fr} {o : Oper} (h : defC f o = true) : convOk o f = true ∧ defB f o.op.operands.toList = true := by
  unfold defC at h
  split at h
  · rename_i e; exact ⟨e, h⟩
  · cases h
/-- a small operation: one value, wherever what it reads is as it was -/
theorem smallv_ok {o : Oper} (hsm : smallOp o = true) {C : Value → Hp → Prop} {f : Fr} {h : Hp} (hv : VOpV P o C f h) (hdef : defC f o = true) :
    ∃ v, C v h ∧ ∀ (ρ : Operand → Value) (w : World), (∀ x ∈ o.op.operands, ∀ v, f.ev x = some v → ρ x = v) → (∀ b off c, loadAt? P o f = some (b, off, c) → ∀ j, j < c → hcell w.heap b (off + j) = hcell h b (off + j)) → (execOp ρ o).run P w = .ok (.value v) w := by
  have hsel := notSelect hv
  have cong : ∀ (ρ : Operand → Value), (∀ x ∈ o.op.operands, ∀ v, f.ev x = some v → ρ x = v) → execOp ρ o = execOp (fun x => (f.ev x).getD undef) o := by
    intro ρ hρ
    refine execOp_congr o hsel (fun x hx => ?_)
    obtain ⟨u, hu⟩ := defB_ok (defC_ok hdef).2 x (by simpa using hx)
    simp [hρ x hx u hu, hu]
  have hρ0 : ∀ x v, f.ev x = some v → (fun x => (f.ev x).getD undef) x = v := fun x v hx => by simp [hx]
  have pure_ok : ∀ op, o.op = op → VPure P op f (fun v => C v h) → ∃ v, C v h ∧ ∀ (ρ : Operand → Value) (w : World), (∀ x ∈ o.op.operands, ∀ v, f.ev x = some v → ρ x = v) →
      (∀ b off c, loadAt? P o f = some (b, off, c) → ∀ j, j < c → hcell w.heap b (off + j) = hcell h b (off + j)) → (execOp ρ o).run P w = .ok (.value v) w := by
    intro op e hp
    subst e
    obtain ⟨v, e, hp⟩ := vpure_ok hρ0 hp
    exact ⟨v, hp, fun ρ w hρ _ => by rw [cong ρ hρ]; exact e w⟩
  by_cases hload : ∃ t x, o.op = .load t x
  · obtain ⟨t, x, e⟩ := hload
    unfold VOpV at hv
    simp only [e] at hv
    split at hv
    · rename_i b off d hx hu
      have hrun : ∀ ρ w v, ρ x = .pointer (some ⟨b, off, none⟩) → (loadVar t ⟨b, off, none⟩).run P w = .ok v w → (execOp ρ o).run P w = .ok (.value v) w := by
        intro ρ w v hρ e1
        unfold execOp
        simp only [e, hρ, Instr.loadAt, Instr.sureAddr, Sem.run_bind, Sem.run_pure, Result.andThen_ok, e1]
      split at hv
      · rename_i hd
        obtain ⟨i, hi, hv⟩ := infoK_ok hv
        · have hla : loadAt? P o f = some (b, off, i.size) := by simp [loadAt?, e, hx, hu, hd, hi]
          obtain ⟨vs, h1, h2, hv⟩ := hv.out
          refine ⟨_, hv, fun ρ w hρ hc => hrun ρ w _ (hρ x (by rw [e]; simp [Op.operands]) _ hx) ?_⟩
          have hlt : ∀ (j : Nat) (v : Value), vs[j]? = some v → j < i.size := fun j v e => by rw [← h1]; exact (List.getElem?_eq_some_iff.mp e).1
          have := run_loadCells_list (P := P) w ⟨b, off, none⟩ vs (fun j v e => by rw [cell_add, hc b off i.size hla j (hlt j v e)]; exact h2 j v e)
          simp only [loadVar, Sem.run_bind, run_isAgg hu, hd, Result.andThen_ok, if_true, run_sizeOf hi, ← h1, this, Sem.run_pure]
      · rename_i hd
        have hla : loadAt? P o f = some (b, off, 1) := by simp [loadAt?, e, hx, hu, hd]
        obtain ⟨v, h1, hv⟩ := hv.out
        refine ⟨_, hv, fun ρ w hρ hc => hrun ρ w _ (hρ x (by rw [e]; simp [Op.operands]) _ hx) ?_⟩
        have e1 : w.cell? ⟨b, off, none⟩ = some v := by
          have := hc b off 1 hla 0 (by omega)
          simp only [Nat.add_zero] at this
          rw [cell_h, this]; exact h1
        simp only [loadVar, Sem.run_bind, run_isAgg hu, hd, Result.andThen_ok, Bool.false_eq_true, if_false, run_load, e1]
    · exact hv.elim
  · have : VPure P o.op f (fun v => C v h) := by
      have hco := (defC_ok hdef).1
      unfold VOpV at hv
      unfold smallOp at hsm
      unfold convOk at hco
      generalize o.op = op at hv hsm hload hco
      cases op
      case convert src dst x =>
        simp only at hv hco
        split at hv
        · rename_i e; rw [e] at hco; cases hco
        · exact hv
      all_goals first | exact absurd ⟨_, _, rfl⟩ hload | exact hv | (simp at hsm; done) | skip
      rename_i c
      obtain ⟨callee, args, argTypes⟩ := c
      cases callee with
      | value x => simp at hsm
      | invoke x m => simp at hsm
      | builtin b => cases b <;> first | exact hv | (simp at hsm; done)
    exact pure_ok _ rfl this
end
section
variable {P : Program} {n : Nat} {ops : Array Oper}
theorem Ext1.ev {f f1 : Fr} (he : Ext1 f f1) (x : Operand) : f1.ev x = f.ev x := by cases x <;> simp [Fr.ev, he _]
theorem Ext1.load {f f1 : Fr} (he : Ext1 f f1) (o : Oper) : loadAt? P o f1 = loadAt? P o f := by
  unfold loadAt?
  cases o.op <;> simp [he.ev]
theorem Ext1.def {f f1 : Fr} (he : Ext1 f f1) (l : List Operand) : defB f1 l = defB f l := by
  induction l with
  | nil => rfl
  | cons x r ih => simp only [defB, he.ev, ih]
theorem Ext1.defC {f f1 : Fr} (he : Ext1 f f1) (o : Oper) : defC f1 o = defC f o := by
  have : convOk o f1 = convOk o f := by
    unfold convOk
    cases o.op <;> simp [he.ev]
  unfold Go.Proofs.YtjggmhpjlnmigaaDoor.defC
  rw [this, he.def]
theorem look_ops {o : Oper} {f : Fr} {a : Act} (hl : Look f a (o.looksAt ops)) : ∀ x ∈ o.op.operands, ∀ v, f.ev x = some v → a.eval x = v := by
  intro x hx v hv
  cases x with
  | tmp t => exact hl t (List.mem_append_left _ (List.mem_filterMap.2 ⟨.tmp t, by simpa using hx, rfl⟩)) v hv
  | const c => simpa [Fr.ev, Act.eval] using hv
  | global c => simpa [Fr.ev, Act.eval] using hv
  | func c => simpa [Fr.ev, Act.eval] using hv
/-- what a small operation gives, wherever it comes up -/
def Gives (P : Program) (ops : Array Oper) (o : Oper) (v : Value) (f : Fr) (ok : Hp → Prop) : Prop :=
  ∀ (a : Act) (w : World), Look f a (o.looksAt ops) → ok w.heap → if Region.wanted o (yielded ops a.tmps) = true then (execOp a.eval o).run P w = .ok (.value v) w else v = undef
theorem smallstep {o : Oper} (hsm : smallOp o = true) {C : Fr → Value → Hp → Prop} {f : Fr} {h : Hp} (hv : VStepV P ops.toList o C f h) (hdef : defC f o = true) :
    ∃ f1 v, Ext1 f f1 ∧ C f1 v h ∧ Gives P ops o v f (fun h' => ∀ b off c, loadAt? P o f = some (b, off, c) → ∀ j, j < c → hcell h' b (off + j) = hcell h b (off + j)) := by
  have go : ∀ f1, Ext1 f f1 → VOpV P o (C f1) f1 h → (∀ a, Look f a (o.looksAt ops) → Region.wanted o (yielded ops a.tmps) = true) →
      ∃ f1 v, Ext1 f f1 ∧ C f1 v h ∧ Gives P ops o v f (fun h' => ∀ b off c, loadAt? P o f = some (b, off, c) → ∀ j, j < c → hcell h' b (off + j) = hcell h b (off + j)) := by
    intro f1 he hv hw
    obtain ⟨v, hc, hg⟩ := smallv_ok hsm hv (by rw [he.defC]; exact hdef)
    refine ⟨f1, v, he, hc, fun a w hl hok => ?_⟩
    rw [if_pos (hw a hl)]
    refine hg a.eval w (fun x hx u hu => look_ops hl x hx u (by rw [← he.ev]; exact hu)) ?_
    rw [he.load]
    exact hok
  have skip : ∀ f1, Ext1 f f1 → C f1 undef h → (∀ a, Look f a (o.looksAt ops) → Region.wanted o (yielded ops a.tmps) = false) →
      ∃ f1 v, Ext1 f f1 ∧ C f1 v h ∧ Gives P ops o v f (fun h' => ∀ b off c, loadAt? P o f = some (b, off, c) → ∀ j, j < c → hcell h' b (off + j) = hcell h b (off + j)) := by
    intro f1 he hv hw
    refine ⟨f1, undef, he, hv, fun a w hl hok => ?_⟩
    rw [if_neg (by rw [hw a hl]; simp)]
  unfold VStepV at hv
  split at hv
  · rename_i hg
    exact go f (Ext1.refl f) hv (fun a _ => by simp [Region.wanted, hg])
  · rename_i j want hg
    split at hv
    · rename_i oj hj
      have hj' : ops[j]? = some oj := by simpa using hj
      split at hv
      · rename_i d hdj
        have hdl : d ∈ o.looksAt ops := List.mem_append_right _ (by simp [hg, hj', hdj])
        split at hv
        · rename_i t ht
          obtain ⟨h1, h2⟩ := hv
          have hyt : ∀ a, Look f a (o.looksAt ops) → yielded ops a.tmps j = some t := fun a hl => yield_at hj' hdj ht (hl d hdl _ ht)
          cases t with
          | true =>
            have h1 := h1 rfl
            cases want with
            | true => exact go _ (Ext1.bool ht) h1 (fun a hl => by simp [Region.wanted, hg, hyt a hl])
            | false => exact skip _ (Ext1.bool ht) h1 (fun a hl => by simp [Region.wanted, hg, hyt a hl])
          | false =>
            have h2 := h2 rfl
            cases want with
            | true => exact skip _ (Ext1.bool ht) h2 (fun a hl => by simp [Region.wanted, hg, hyt a hl])
            | false => exact go _ (Ext1.bool ht) h2 (fun a hl => by simp [Region.wanted, hg, hyt a hl])
        · rename_i vs ht
          split at hv
          · have hyt : ∀ a, Look f a (o.looksAt ops) → yielded ops a.tmps j = none := fun a hl => yield_at hj' hdj ht (hl d hdl _ ht)
            exact skip f (Ext1.refl f) hv (fun a hl => by simp [Region.wanted, hg, hyt a hl])
          · exact hv.elim
        · exact hv.elim
      · exact hv.elim
    · exact hv.elim
theorem memN_ok {i : Nat} : ∀ {l : List Nat}, memN i l = true ↔ i ∈ l
  | [] => by simp [memN]
  | j :: r => by
    simp only [memN, List.mem_cons]
    cases hb : Nat.beq j i with
    | true => simp [Nat.eq_of_beq_eq_true hb]
    | false =>
      have hne : i ≠ j := fun e => by subst e; simp at hb
      simp [memN_ok (l := r), hne]
theorem mem_dropG {ds : List Nat} {x : Nat × Nat × Nat × Nat} : ∀ {Γ : List (Nat × Nat × Nat × Nat)}, x ∈ dropG ds Γ ↔ x ∈ Γ ∧ x.1 ∉ ds
  | [] => by simp [dropG]
  | y :: r => by
    simp only [dropG]
    cases hb : memN y.1 ds with
    | true =>
      have := memN_ok.mp hb
      simp only [mem_dropG (Γ := r), List.mem_cons]
      constructor
      · exact fun ⟨a, b⟩ => ⟨.inr a, b⟩
      · rintro ⟨rfl | a, b⟩
        · exact absurd this b
        · exact ⟨a, b⟩
    | false =>
      have : y.1 ∉ ds := fun e => by rw [memN_ok.mpr e] at hb; cases hb
      simp only [mem_dropG (Γ := r), List.mem_cons]
      constructor
      · rintro (rfl | ⟨a, b⟩)
        · exact ⟨.inl rfl, this⟩
        · exact ⟨.inr a, b⟩
      · rintro ⟨rfl | a, b⟩
        · exact .inl rfl
        · exact .inr ⟨a, b⟩
theorem keepK_ok {h h' : Hp} {A : Prop} : ∀ {Γ : List (Nat × Nat × Nat × Nat)}, keepK h h' A Γ → A ∧ ∀ x ∈ Γ, ∀ j, j < x.2.2.2 → hcell h' x.2.1 (x.2.2.1 + j) = hcell h x.2.1 (x.2.2.1 + j)
  | [], hk => ⟨hk, fun x hx => by simp at hx⟩
  | (i, b, o, c) :: r, hk => by
    obtain ⟨h1, h2⟩ := hk
    obtain ⟨a, h3⟩ := keepK_ok h2
    refine ⟨a, fun x hx => ?_⟩
    rcases List.mem_cons.mp hx with rfl | hx
    · exact h1
    · exact h3 x hx
theorem mem_dirs {o : Oper} {i : Nat} : i ∈ dirs o ↔ ∃ e ∈ o.after, Region.binds .any e = true ∧ e.on = i := by
  simp [dirs, List.mem_map, List.mem_filter, and_assoc]
/-- the ghost order is closed -/
def GOk (ops : Array Oper) : List Nat → Prop
  | [] => True
  | i :: r => (∃ o, ops[i]? = some o ∧ ∀ e ∈ dirs o, e ∈ r) ∧ i ∉ r ∧ GOk ops r
theorem openB_ok {g : List Nat} {i : Nat} : openB ops.toList g i = true ↔ ∃ o, ops[i]? = some o ∧ i ∉ g ∧ ∀ e ∈ dirs o, e ∈ g := by
  unfold openB
  simp only [Array.getElem?_toList]
  cases ops[i]? with
  | none => simp
  | some o => simp
theorem ready_iff {L : Array Bool} {i : Nat} : i ∈ Region.ready .any ops L ↔ L.getD i true = false ∧ ∃ o, ops[i]? = some o ∧ ∀ e ∈ dirs o, L.getD e false = true := by
  rw [mem_ready]
  constructor
  · rintro ⟨a, o, ho, h⟩
    exact ⟨a, o, ho, fun e he => by obtain ⟨x, hx, hb, rfl⟩ := mem_dirs.mp he; exact h x hx hb⟩
  · rintro ⟨a, o, ho, h⟩
    exact ⟨a, o, ho, fun x hx hb => h _ (mem_dirs.mpr ⟨x, hx, hb, rfl⟩)⟩
theorem gok_all {L : Array Bool} (hsz : L.size = ops.size) (hr : Region.ready .any ops L = []) : ∀ {g : List Nat}, GOk ops g → ∀ i ∈ g, L.getD i false = true
  | [], _, i, hi => by simp at hi
  | j :: r, ⟨⟨o, ho, hd⟩, _, hg⟩, i, hi => by
    have ih := gok_all hsz hr hg
    rcases List.mem_cons.mp hi with rfl | hi
    · cases hb : L.getD i false with
      | true => rfl
      | false =>
        have hlt : i < L.size := by rw [hsz]; exact (Array.getElem?_eq_some_iff.mp ho).1
        have : i ∈ Region.ready .any ops L := ready_iff.mpr ⟨by simpa [Array.getD, hlt] using hb, o, ho, fun e he => ih e (hd e he)⟩
        rw [hr] at this
        simp at this
    · exact ih i hi
end
section
variable {P : Program} {n : Nat} {ops : Array Oper}
/-- what is known in the midst of a region: L has been carried out, g is what the calculus has gone through, f its frame -/
structure Mid (P : Program) (n : Nat) (ops : Array Oper) (L : Array Bool) (g : List Nat) (f : Fr) (h : Hp) (Γ : List (Nat × Nat × Nat × Nat)) (a : Act) : Prop where
  size : L.size = ops.size
  sub : ∀ i, L.getD i false = true → i ∈ g
  down : ∀ i o, ops[i]? = some o → L.getD i false = true → ∀ e ∈ dirs o, L.getD e false = true
  gok : GOk ops g
  asz : a.tmps.size = n
  agr : ∀ t v, f.get t = some v → (∀ i o, i ∈ g → L.getD i false = false → ops[i]? = some o → o.dst ≠ some t) → a.tmps.getD t undef = v
  pend : ∀ i, i ∈ g → L.getD i false = false → smallAt ops.toList i = true ∧ ∃ o, ops[i]? = some o ∧ ∃ v, (∀ d, o.dst = some d → d < n ∧ f.get d = some v) ∧
    Gives P ops o v f (fun h' => ∀ x ∈ Γ, x.1 = i → ∀ j, j < x.2.2.2 → hcell h' x.2.1 (x.2.2.1 + j) = hcell h x.2.1 (x.2.2.1 + j))
theorem GOk.mem : ∀ {g : List Nat}, GOk ops g → ∀ i ∈ g, ∃ o, ops[i]? = some o ∧ ∀ e ∈ dirs o, e ∈ g
  | [], _, i, hi => by simp at hi
  | j :: r, ⟨⟨o, ho, hd⟩, _, hg⟩, i, hi => by
    rcases List.mem_cons.mp hi with rfl | hi
    · exact ⟨o, ho, fun e he => List.mem_cons_of_mem _ (hd e he)⟩
    · obtain ⟨o', h1, h2⟩ := GOk.mem hg i hi
      exact ⟨o', h1, fun e he => List.mem_cons_of_mem _ (h2 e he)⟩
theorem smallAt_ok {k : Nat} (h : smallAt ops.toList k = true) : ∃ o d, ops[k]? = some o ∧ smallOp o = true ∧ o.dst = some d ∧ d ∉ o.looksAt ops ∧
    ∀ i oi, i ≠ k → ops[i]? = some oi → (d ∈ oi.looksAt ops ∨ oi.dst = some d) → k ∈ dirs oi := by
  unfold smallAt at h
  simp only [Array.getElem?_toList] at h
  cases hk : ops[k]? with
  | none => simp [hk] at h
  | some o =>
    simp only [hk, Bool.and_eq_true] at h
    cases hd : o.dst with
    | none => simp [hd] at h
    | some d =>
      simp only [hd, Bool.and_eq_true, Bool.not_eq_true', List.all_eq_true, List.mem_range] at h
      obtain ⟨h1, h2, h3⟩ := h
      refine ⟨o, d, rfl, h1, hd, by simpa using h2, fun i oi hne hi hm => ?_⟩
      have hlt : i < ops.toList.length := by simpa using (Array.getElem?_eq_some_iff.mp hi).1
      have := h3 i hlt
      simp only [hi, Bool.or_eq_true, beq_iff_eq, hne, false_or, Bool.not_eq_true'] at this
      rcases this with h4 | h4
      · exfalso
        have h4 : d ∉ names ops.toList oi := by simpa using h4
        apply h4
        unfold names
        rcases hm with hm | hm
        · exact List.mem_append_left _ (by simpa using hm)
        · exact List.mem_append_right _ (by simp [hm])
      · simpa using h4
theorem pairsB_ok (h : pairsB ops.toList = true) {k i : Nat} {ok oi : Oper} {d : Nat} (hne : i ≠ k) (hk : ops[k]? = some ok) (hi : ops[i]? = some oi) (hd : ok.dst = some d) (hm : d ∈ oi.looksAt ops ∨ oi.dst = some d) : k ∈ dirs oi ∨ i ∈ dirs ok := by
  unfold pairsB at h
  simp only [List.all_eq_true, List.mem_range] at h
  have := h k (by simpa using (Array.getElem?_eq_some_iff.mp hk).1) i (by simpa using (Array.getElem?_eq_some_iff.mp hi).1)
  simp only [Array.getElem?_toList, hk, hi, hd, Bool.or_eq_true, beq_iff_eq, hne, false_or, Bool.not_eq_true'] at this
  rcases this with (h4 | h4) | h4
  · exfalso
    have h4 : d ∉ names ops.toList oi := by simpa using h4
    apply h4
    unfold names
    rcases hm with hm | hm
    · exact List.mem_append_left _ (by simpa using hm)
    · exact List.mem_append_right _ (by simp [hm])
  · exact .inl (by simpa using h4)
  · exact .inr (by simpa using h4)
/-- what an operation that may come next looks at is told by the frame -/
theorem Mid.look {L : Array Bool} {g : List Nat} {f : Fr} {h : Hp} {Γ : List (Nat × Nat × Nat × Nat)} {a : Act} (m : Mid P n ops L g f h Γ a) {i : Nat} {o : Oper} (ho : ops[i]? = some o) (hdir : ∀ e ∈ dirs o, L.getD e false = true) :
    Look f a (o.looksAt ops) := by
  intro t ht u hu
  refine m.agr t u hu (fun k ok hk hL hok hd => ?_)
  obtain ⟨hsm, _⟩ := m.pend k hk hL
  obtain ⟨o', d', e1, _, e2, e3, e4⟩ := smallAt_ok hsm
  rw [hok] at e1
  cases e1
  rw [hd] at e2
  cases e2
  by_cases e : i = k
  · subst e
    rw [ho] at hok
    cases hok
    exact e3 ht
  · have := hdir k (e4 i o e ho (.inl ht))
    rw [this] at hL
    cases hL
theorem getD_set_self {L : Array Bool} {i : Nat} (h : i < L.size) (d : Bool) : (L.setIfInBounds i true).getD i d = true := by
  simp [Array.getD, h]
theorem put_getD {a : Act} {d t : Nat} {v : Value} (hd : d < a.tmps.size) : (a.put (some d) v).tmps.getD t undef = if d = t then v else a.tmps.getD t undef := by
  simp only [Act.put]
  by_cases e : d = t
  · subst e
    rw [if_pos rfl, Array.getD_eq_getD_getElem?, Array.getElem?_setIfInBounds_self_of_lt hd]
    rfl
  · rw [if_neg e, Array.getD_eq_getD_getElem?, Array.getElem?_setIfInBounds_ne e, ← Array.getD_eq_getD_getElem?]
theorem put_none (a : Act) (v : Value) : a.put none v = a := rfl
theorem put_size (a : Act) (d : Option Tmp) (v : Value) : (a.put d v).tmps.size = a.tmps.size := by cases d <;> simp [Act.put]
theorem put_def (a : Act) (d : Option Tmp) (v : Value) : (a.put d v).defers = a.defers := by cases d <;> rfl
theorem smallNoDefer {o : Oper} (h : smallOp o = true) : ∀ c, o.op ≠ .defer c := by
  intro c e
  unfold smallOp at h
  rw [e] at h
  cases h
/-- a pending operation comes up -/
theorem Mid.take {ro : Option Nat} {fd : Nat} {L : Array Bool} {g : List Nat} {f : Fr} {h : Hp} {Γ : List (Nat × Nat × Nat × Nat)} {a : Act} (m : Mid P n ops L g f h Γ a) {i : Nat} (hi : i ∈ g) (hr : i ∈ Region.ready .any ops L) {w : World} (hw : w.heap = h)
    {Q : Exit → Act → World → Prop} {N : Act → World → Prop} (hN : ∀ a', a'.defers = a.defers → Mid P n ops (L.setIfInBounds i true) g f h Γ a' → N a' w) : wpOpIn (FR ro) fd P ops Q i N a w := by
  obtain ⟨hL, o, ho, hdir⟩ := ready_iff.mp hr
  have hlt : i < L.size := by rw [m.size]; exact (Array.getElem?_eq_some_iff.mp ho).1
  have hLf : L.getD i false = false := by simpa [Array.getD, hlt] using hL
  obtain ⟨hsm, o', ho', v, hd, hg⟩ := m.pend i hi hLf
  rw [ho] at ho'
  cases ho'
  have hl := m.look ho hdir
  have hgv := hg a w hl (fun x _ _ j _ => by rw [hw])
  have hmid : Mid P n ops (L.setIfInBounds i true) g f h Γ (a.put o.dst v) := by
    have hset : ∀ k d, i ≠ k → (L.setIfInBounds i true).getD k d = L.getD k d := fun k d hne => getD_set_ne d hne
    refine ⟨by simp [m.size], fun k hk => ?_, fun k ok hok hk e he => ?_, m.gok, by rw [put_size, m.asz], fun t u hu hn => ?_, fun k hk hLk => ?_⟩
    · by_cases e : i = k
      · subst e; exact hi
      · rw [hset k false e] at hk; exact m.sub k hk
    · by_cases e1 : i = k
      · subst e1
        rw [ho] at hok
        cases hok
        exact getD_set_true (hdir e he)
      · rw [hset k false e1] at hk
        exact getD_set_true (m.down k ok hok hk e he)
    · cases hdo : o.dst with
      | none =>
        rw [put_none]
        refine m.agr t u hu (fun k ok hk hLk hok => ?_)
        by_cases e : i = k
        · subst e
          rw [ho] at hok
          cases hok
          simp [hdo]
        · exact hn k ok hk (by rw [hset k false e]; exact hLk) hok
      | some d =>
        obtain ⟨hdn, hfd⟩ := hd d hdo
        rw [put_getD (by rw [m.asz]; exact hdn)]
        by_cases e : d = t
        · subst e
          rw [if_pos rfl]
          rw [hfd] at hu
          cases hu
          rfl
        · rw [if_neg e]
          refine m.agr t u hu (fun k ok hk hLk hok => ?_)
          by_cases e1 : i = k
          · subst e1
            rw [ho] at hok
            cases hok
            rw [hdo]
            simpa using e
          · exact hn k ok hk (by rw [hset k false e1]; exact hLk) hok
    · by_cases e : i = k
      · subst e; rw [getD_set_self hlt] at hLk; cases hLk
      · rw [hset k false e] at hLk
        exact m.pend k hk hLk
  unfold wpOpIn
  simp only [ho]
  by_cases hwant : Region.wanted o (yielded ops a.tmps) = true
  · rw [if_pos hwant] at hgv ⊢
    unfold Oper.wpIn
    refine ⟨fun _ _ => trivial, ?_⟩
    obtain ⟨os, _, es1, es2, _⟩ := smallAt_ok hsm
    rw [ho] at es1
    cases es1
    rw [Oper.semAt_eq _ _ _ (smallNoDefer es2), hgv]
    exact hN _ (put_def _ _ _) hmid
  · rw [if_neg hwant] at hgv ⊢
    subst hgv
    exact ⟨fun _ _ => trivial, hN _ (put_def _ _ _) hmid⟩
/-- the calculus goes through a small operation -/
theorem Mid.ghost {L : Array Bool} {g : List Nat} {f : Fr} {h : Hp} {Γ Γ' : List (Nat × Nat × Nat × Nat)} {a : Act} (m : Mid P n ops L g f h Γ a) {k : Nat} (hk : k ∉ g) (hsm : smallAt ops.toList k = true) {o : Oper} (ho : ops[k]? = some o) (hdir : ∀ e ∈ dirs o, e ∈ g)
    {f1 : Fr} {v : Value} {d : Nat} (hd : o.dst = some d) (hdn : d < n) (he : Ext1 f f1) (hΓ : ∀ x ∈ Γ', x ∈ Γ ∨ x.1 = k) (hΓ2 : ∀ x ∈ Γ, x ∈ Γ')
    (hg : Gives P ops o v f (fun h' => ∀ x ∈ Γ', x.1 = k → ∀ j, j < x.2.2.2 → hcell h' x.2.1 (x.2.2.1 + j) = hcell h x.2.1 (x.2.2.1 + j))) :
    Mid P n ops L (k :: g) ((d, v) :: f1) h Γ' a := by
  have hget : ∀ t, Fr.get ((d, v) :: f1) t = if d = t then some v else f.get t := fun t => by rw [Fr.get_cons, he t]
  obtain ⟨o', d', e1, _, e2, e3, e4⟩ := smallAt_ok hsm
  rw [ho] at e1
  cases e1
  rw [hd] at e2
  cases e2
  refine ⟨m.size, fun i hi => List.mem_cons_of_mem _ (m.sub i hi), m.down, ⟨⟨o, ho, hdir⟩, hk, m.gok⟩, m.asz, fun t u hu hn => ?_, fun i hi hLi => ?_⟩
  · rw [hget] at hu
    by_cases e : d = t
    · exfalso
      have hLk : L.getD k false = false := by
        cases hb : L.getD k false with
        | false => rfl
        | true => exact absurd (m.sub k hb) hk
      exact hn k o (List.mem_cons_self ..) hLk ho (by rw [hd, e])
    · rw [if_neg e] at hu
      exact m.agr t u hu (fun i oi hi hLi hoi => hn i oi (List.mem_cons_of_mem _ hi) hLi hoi)
  · rcases List.mem_cons.mp hi with rfl | hi
    · refine ⟨hsm, o, ho, v, fun d2 hd2 => ?_, fun a' w hl hok => hg a' w (fun t ht u hu => hl t ht u ?_) hok⟩
      · rw [hd] at hd2
        cases hd2
        exact ⟨hdn, by rw [hget, if_pos rfl]⟩
      · rw [hget, if_neg (fun e => e3 (by rw [e]; exact ht))]
        exact hu
    · obtain ⟨hs, oi, hoi, u, h1, h2⟩ := m.pend i hi hLi
      have hne : i ≠ k := fun e => hk (e ▸ hi)
      have hdi : d ∉ oi.looksAt ops ∧ oi.dst ≠ some d := by
        obtain ⟨oi', hoi', hcl⟩ := m.gok.mem i hi
        rw [hoi] at hoi'
        cases hoi'
        exact ⟨fun e => hk (hcl k (e4 i oi hne hoi (.inl e))), fun e => hk (hcl k (e4 i oi hne hoi (.inr e)))⟩
      refine ⟨hs, oi, hoi, u, fun d2 hd2 => ?_, fun a' w hl hok => h2 a' w (fun t ht u hu => hl t ht u ?_) (fun x hx e => hok x (hΓ2 x hx) e)⟩
      · rw [hget, if_neg (fun e => hdi.2 (by rw [hd2, e]))]
        exact h1 d2 hd2
      · rw [hget, if_neg (fun e => hdi.1 (by rw [e]; exact ht))]
        exact hu
end
section
variable {P : Program} {n : Nat} {ops : Array Oper}
def frPut (d : Option Tmp) (v : Value) (f : Fr) : Fr :=
  match d with
  | some d => (d, v) :: f
  | none => f
theorem Mid.both {L : Array Bool} {g : List Nat} {f : Fr} {h : Hp} {Γ : List (Nat × Nat × Nat × Nat)} {a : Act} (m : Mid P n ops L g f h Γ a) (hp : pairsB ops.toList = true) {i : Nat} (hi : i ∉ g) {o : Oper} (ho : ops[i]? = some o)
    (hdir : ∀ e ∈ dirs o, L.getD e false = true) {f1 : Fr} {v : Value} {h' : Hp} (he : Ext1 f f1) {f2 : Fr} (hf2 : f2 = frPut o.dst v f1) (hdn : ∀ d, o.dst = some d → d < n)
    (hk : ∀ x ∈ dropG (dirs o) Γ, ∀ j, j < x.2.2.2 → hcell h' x.2.1 (x.2.2.1 + j) = hcell h x.2.1 (x.2.2.1 + j)) :
    Mid P n ops (L.setIfInBounds i true) (i :: g) f2 h' (dropG (dirs o) Γ) (a.put o.dst v) := by
  have hlt : i < L.size := by rw [m.size]; exact (Array.getElem?_eq_some_iff.mp ho).1
  have hset : ∀ k d, i ≠ k → (L.setIfInBounds i true).getD k d = L.getD k d := fun k d hne => getD_set_ne d hne
  have hget : ∀ t, f2.get t = if o.dst = some t then some v else f.get t := by
    intro t
    subst hf2
    cases hd : o.dst with
    | none => simp [frPut, he t]
    | some d =>
      simp only [frPut, Fr.get_cons, he t, Option.some.injEq]
  refine ⟨by simp [m.size], fun k hk => ?_, fun k ok hok hk e he => ?_, ⟨⟨o, ho, fun e he => m.sub e (hdir e he)⟩, hi, m.gok⟩, by rw [put_size, m.asz], fun t u hu hn => ?_, fun k hkg hLk => ?_⟩
  · by_cases e : i = k
    · subst e; exact List.mem_cons_self ..
    · rw [hset k false e] at hk; exact List.mem_cons_of_mem _ (m.sub k hk)
  · by_cases e1 : i = k
    · subst e1
      rw [ho] at hok
      cases hok
      exact getD_set_true (hdir e he)
    · rw [hset k false e1] at hk
      exact getD_set_true (m.down k ok hok hk e he)
  · rw [hget] at hu
    have old : ∀ k ok, k ∈ g → L.getD k false = false → ops[k]? = some ok → ok.dst ≠ some t := by
      intro k ok hk hLk hok
      have hne : i ≠ k := fun e => hi (e ▸ hk)
      exact hn k ok (List.mem_cons_of_mem _ hk) (by rw [hset k false hne]; exact hLk) hok
    cases hd : o.dst with
    | none =>
      rw [hd] at hu
      rw [put_none]
      exact m.agr t u (by simpa using hu) old
    | some d =>
      rw [put_getD (by rw [m.asz]; exact hdn d hd)]
      rw [hd] at hu
      by_cases e : d = t
      · rw [if_pos e]
        rw [if_pos (by rw [e])] at hu
        cases hu
        rfl
      · rw [if_neg e]
        rw [if_neg (by simpa using e)] at hu
        exact m.agr t u hu old
  · rcases List.mem_cons.mp hkg with rfl | hkg
    · rw [getD_set_self hlt] at hLk; cases hLk
    · have hne : k ≠ i := fun e => hi (e ▸ hkg)
      rw [hset k false (Ne.symm hne)] at hLk
      obtain ⟨hs, ok, hok, u, h1, h2⟩ := m.pend k hkg hLk
      have hnd : k ∉ dirs o := fun e => by rw [hdir k e] at hLk; cases hLk
      have hdi : ∀ d, o.dst = some d → d ∉ ok.looksAt ops ∧ ok.dst ≠ some d := by
        intro d hd
        obtain ⟨ok', hok', hcl⟩ := m.gok.mem k hkg
        rw [hok] at hok'
        cases hok'
        have no : ¬ (d ∈ ok.looksAt ops ∨ ok.dst = some d) := by
          intro hm
          rcases pairsB_ok hp hne ho hok hd hm with h5 | h5
          · exact hi (hcl i h5)
          · exact hnd h5
        exact ⟨fun e => no (.inl e), fun e => no (.inr e)⟩
      refine ⟨hs, ok, hok, u, fun d2 hd2 => ?_, fun a' w hl hok2 => h2 a' w (fun t ht u hu => hl t ht u ?_) (fun x hx e j hj => ?_)⟩
      · rw [hget, if_neg (fun e => (hdi d2 e).2 hd2)]
        exact h1 d2 hd2
      · rw [hget, if_neg (fun e => (hdi t e).1 ht)]
        exact hu
      · have hx' : x ∈ dropG (dirs o) Γ := mem_dropG.mpr ⟨hx, by rw [e]; exact hnd⟩
        exact (hok2 x hx' e j hj).trans (hk x hx' j hj)
theorem putF_frame {d : Option Tmp} {v : Value} {K : Fr → Hp → Prop} {f : Fr} {h : Hp} (hp : putF n d v K f h) : K (frPut d v f) h ∧ ∀ e, d = some e → e < n := by
  unfold putF at hp
  cases d with
  | none => exact ⟨hp, fun e he => by cases he⟩
  | some d =>
    simp only at hp ⊢
    cases hb : Nat.blt d n with
    | false => simp [hb] at hp
    | true =>
      simp only [hb] at hp
      exact ⟨hp, fun e he => by cases he; exact Nat.le_of_ble_eq_true hb⟩
theorem chain_ok {K : Fr → Hp → Prop} {Γ : List (Nat × Nat × Nat × Nat)} {f : Fr} {h : Hp} {g : List Nat} {i : Nat} : ∀ {r : Ord} {top : Bool}, ordB ops.toList r top g = true → i ∈ r.heads → VD P n ops.toList r Γ K f h →
    ∃ (o : Oper) (r' : Ord), ops[i]? = some o ∧ ordB ops.toList r' true (i :: g) = true ∧ VStep P n ops.toList o (fun f' h' => keepK h h' (VD P n ops.toList r' (dropG (dirs o) Γ) K f' h') (dropG (dirs o) Γ)) f h
  | .alt j r m, top, ho, hi, hv => by
    have ho' := ho
    simp only [ordB, Bool.and_eq_true] at ho'
    obtain ⟨⟨⟨_, h1⟩, h2⟩, h3⟩ := ho'
    obtain ⟨o, e1, _, _⟩ := openB_ok.mp h1
    have e1' : ops.toList[j]? = some o := by simpa using e1
    by_cases e : i = j
    · subst e
      refine ⟨o, r, e1, h2, ?_⟩
      simp only [VD, e1'] at hv
      split at hv
      · exact hv
      · exact hv.1
    · have hi' : i ∈ m.heads := by
        simp only [Ord.heads, List.mem_cons] at hi
        exact hi.resolve_left e
      refine chain_ok h3 hi' (?_ : VD P n ops.toList m Γ K f h)
      simp only [VD, e1'] at hv
      split at hv
      · simp [Ord.heads] at hi'
      · exact hv.2
  | .done, _, _, hi, _ => by simp [Ord.heads] at hi
  | .stop, _, _, hi, _ => by simp [Ord.heads] at hi
  | .go _ _, _, _, hi, _ => by simp [Ord.heads] at hi
theorem vd_ok {ro : Option Nat} {fd : Nat} (hp : pairsB ops.toList = true) {Q : Exit → Act → World → Prop} (d0 : List Deferred) (w0 : World) {K : Fr → Hp → Prop} (hQ : ∀ a' w', Nx n K d0 w0 a' w' → Q .normal a' w') :
    ∀ (fuel : Nat) (u : List Nat) (L : Array Bool), u.length = fuel → u.Nodup → (∀ i, i ∈ u ↔ i < ops.size ∧ L.getD i false = false) → ∀ (r : Ord) (g : List Nat) (f : Fr) (h : Hp) (Γ : List (Nat × Nat × Nat × Nat)) (a : Act) (w : World),
      ordB ops.toList r true g = true → Mid P n ops L g f h Γ a → VD P n ops.toList r Γ K f h → w.heap = h → Same w0 w → a.defers = d0 → wpAnyIn (FR ro) fd P .any ops Q fuel L a w := by
  have finish : ∀ (L : Array Bool) (r : Ord) (g : List Nat) (f : Fr) (h : Hp) (Γ : List (Nat × Nat × Nat × Nat)) (a : Act) (w : World),
      ordB ops.toList r true g = true → Mid P n ops L g f h Γ a → VD P n ops.toList r Γ K f h → w.heap = h → Same w0 w → a.defers = d0 → Region.ready .any ops L = [] → Q .normal a w := by
    intro L r g f h Γ a w ho m hv hw hs hd hr
    have hall := gok_all m.size hr m.gok
    have nope : ∀ k, openB ops.toList g k = true → False := by
      intro k hk
      obtain ⟨o, h1, h2, h3⟩ := openB_ok.mp hk
      have hlt : k < L.size := by rw [m.size]; exact (Array.getElem?_eq_some_iff.mp h1).1
      have hLk : L.getD k false = false := by
        cases hb : L.getD k false with
        | false => rfl
        | true => exact absurd (m.sub k hb) h2
      have : k ∈ Region.ready .any ops L := ready_iff.mpr ⟨by simpa [Array.getD, hlt] using hLk, o, h1, fun e he => hall e (h3 e he)⟩
      rw [hr] at this
      simp at this
    cases r with
    | done =>
      simp only [VD] at hv
      subst hw
      refine hQ a w ⟨f, ⟨m.asz, fun t u hu => m.agr t u hu (fun i o hi hLi _ => ?_)⟩, hd, hs, hv⟩
      rw [hall i hi] at hLi
      cases hLi
    | stop => simp [ordB] at ho
    | go k r' =>
      simp only [ordB, Bool.and_eq_true] at ho
      exact (nope k ho.1.1.2).elim
    | alt k r' m' =>
      simp only [ordB, Bool.and_eq_true] at ho
      exact (nope k ho.1.1.2).elim
  have rdy : ∀ (L : Array Bool) (u : List Nat), L.size = ops.size → (∀ i, i ∈ u ↔ i < ops.size ∧ L.getD i false = false) → ∀ i ∈ Region.ready .any ops L, i ∈ u := by
    intro L u hsz hu i hi
    obtain ⟨h1, o, h2, _⟩ := ready_iff.mp hi
    have hlt : i < ops.size := (Array.getElem?_eq_some_iff.mp h2).1
    exact (hu i).mpr ⟨hlt, by simpa [Array.getD, show i < L.size by rw [hsz]; exact hlt] using h1⟩
  intro fuel
  induction fuel with
  | zero =>
    intro u L hlen _ hu r g f h Γ a w ho m hv hw hs hd
    have hu0 : u = [] := List.length_eq_zero_iff.mp hlen
    have hr : Region.ready .any ops L = [] := by
      cases hc : Region.ready .any ops L with
      | nil => rfl
      | cons x xs =>
        have := rdy L u m.size hu x (by rw [hc]; simp)
        rw [hu0] at this
        simp at this
    exact ⟨hr, finish L r g f h Γ a w ho m hv hw hs hd hr⟩
  | succ fuel ih =>
    intro u L hlen hnd hu r g f h Γ a w ho m hv hw hs hd
    refine ⟨fun hr => finish L r g f h Γ a w ho m hv hw hs hd hr, fun i hi => ?_⟩
    obtain ⟨hLi, o, hoi, hdir⟩ := ready_iff.mp hi
    have hiu := rdy L u m.size hu i hi
    have hlt : i < L.size := by rw [m.size]; exact (Array.getElem?_eq_some_iff.mp hoi).1
    have hlen' : (u.erase i).length = fuel := by rw [List.length_erase_of_mem hiu, hlen]; rfl
    have hnd' : (u.erase i).Nodup := hnd.erase i
    have hu' : ∀ k, k ∈ u.erase i ↔ k < ops.size ∧ (L.setIfInBounds i true).getD k false = false := by
      intro k
      rw [hnd.mem_erase_iff, hu k]
      by_cases e : i = k
      · subst e
        rw [getD_set_self hlt]
        simp
      · rw [getD_set_ne false e]
        constructor
        · exact fun ⟨_, h⟩ => h
        · exact fun h => ⟨Ne.symm e, h⟩
    -- the calculus is led on to where i is known
    induction r generalizing g f Γ with
    | done =>
      simp only [ordB, Bool.and_eq_true, List.all_eq_true, List.mem_range] at ho
      have hig : i ∈ g := by have := ho.2 i (by simpa using (Array.getElem?_eq_some_iff.mp hoi).1); simpa using this
      exact m.take hig hi hw (fun a' hd' m' => ih (u.erase i) _ hlen' hnd' hu' .done g f h Γ a' w (by simp only [ordB, Bool.true_and, List.all_eq_true, List.mem_range]; exact ho.2) m' hv hw hs (hd'.trans hd))
    | stop => simp [ordB] at ho
    | go k r' ihr =>
      by_cases hig : i ∈ g
      · exact m.take hig hi hw (fun a' hd' m' => ih (u.erase i) _ hlen' hnd' hu' (.go k r') g f h Γ a' w ho m' hv hw hs (hd'.trans hd))
      · have ho' := ho
        simp only [ordB, Bool.and_eq_true, Bool.true_and] at ho'
        obtain ⟨⟨h1, h2⟩, h3⟩ := ho'
        obtain ⟨ok, e1, e2, e3⟩ := openB_ok.mp h1
        obtain ⟨o', d, e1', s1, s2, s3, s4⟩ := smallAt_ok h2
        rw [e1] at e1'
        cases e1'
        have e1l : ops.toList[k]? = some ok := by simpa using e1
        simp only [VD, e1l] at hv
        split at hv
        · rename_i hdef
          have key : ∀ (Γ' : List (Nat × Nat × Nat × Nat)), VStep P n ops.toList ok (VD P n ops.toList r' Γ' K) f h → (∀ x ∈ Γ', x ∈ Γ ∨ x.1 = k) → (∀ x ∈ Γ, x ∈ Γ') →
              (∀ b off c, loadAt? P ok f = some (b, off, c) → (k, b, off, c) ∈ Γ') → wpOpIn (FR ro) fd P ops Q i (wpAnyIn (FR ro) fd P .any ops Q fuel (L.setIfInBounds i true)) a w := by
            intro Γ' hv q1 q2 q3
            obtain ⟨f1, v, he, hc, hgv⟩ := smallstep s1 hv hdef
            obtain ⟨hc, hdn⟩ := putF_frame hc
            rw [s2] at hc
            have m' := m.ghost e2 h2 e1 e3 s2 (hdn d s2) he q1 q2 (v := v) (fun a w hl hok => hgv a w hl (fun b off c hb => hok (k, b, off, c) (q3 b off c hb) rfl))
            exact ihr (k :: g) ((d, v) :: f1) Γ' h3 m' hc
          split at hv
          · rename_i b off c hb
            exact key _ hv (fun x hx => by rcases List.mem_cons.mp hx with rfl | hx; exact .inr rfl; exact .inl hx) (fun x hx => List.mem_cons_of_mem _ hx)
              (fun b' off' c' hb' => by rw [hb] at hb'; cases hb'; exact List.mem_cons_self ..)
          · rename_i hb
            exact key _ hv (fun x hx => .inl hx) (fun x hx => hx) (fun b' off' c' hb' => by rw [hb] at hb'; cases hb')
        · exact hv.elim
    | alt k r' m' ihr ihm =>
      by_cases hig : i ∈ g
      · exact m.take hig hi hw (fun a' hd' mm => ih (u.erase i) _ hlen' hnd' hu' (.alt k r' m') g f h Γ a' w ho mm hv hw hs (hd'.trans hd))
      · have ho' := ho
        simp only [ordB, Bool.and_eq_true, Bool.not_true, Bool.false_or] at ho'
        obtain ⟨⟨⟨h0, _⟩, _⟩, _⟩ := ho'
        have hopen : openB ops.toList g i = true := openB_ok.mpr ⟨o, hoi, hig, fun e he => m.sub e (hdir e he)⟩
        have hheads : i ∈ (Ord.alt k r' m').heads := by
          simp only [List.all_eq_true, List.mem_range] at h0
          have := h0 i (by simpa using (Array.getElem?_eq_some_iff.mp hoi).1)
          simpa [hopen] using this
        obtain ⟨o2, r2, q1, q2, q3⟩ := chain_ok ho hheads hv
        rw [hoi] at q1
        cases q1
        refine vstepv_ok hoi q3 (m.look hoi hdir) hw (fun f1 v w' he hs' hc => ?_)
        obtain ⟨hc, hdn⟩ := putF_frame hc
        obtain ⟨hc, hk⟩ := keepK_ok hc
        have mm := m.both hp hig hoi hdir he rfl hdn hk (v := v)
        exact ih (u.erase i) _ hlen' hnd' hu' r2 (i :: g) _ _ _ _ w' q2 mm hc rfl (hs.trans hs') ((put_def _ _ _).trans hd)
/-- a region that draws its order -/
theorem EvDraw.ord {id : Nat} {K : Fr → Hp → Prop} {f : Fr} {h : Hp} (r : Ord) (hm : P.follows .mixedOrders = true) (hp : pairsB ops.toList = true) (ho : ordB ops.toList r true [] = true) (hv : VD P n ops.toList r [] K f h) : EvDraw P n id ops K f h := by
  refine ⟨fun ro fd a w ha hw => wpIn_region_any hm ?_⟩
  refine vd_ok (P := P) (n := n) (ops := ops) hp a.defers w (K := K) (fun a' w' ⟨f', h1, h2, h3, h4⟩ => ⟨f', trivial, h1, h2, h3, h4⟩) ops.size (List.range ops.size) _ (by simp) List.nodup_range (fun i => ?_) r [] f h [] a _ ho ?_ hv hw ⟨rfl, rfl, rfl⟩ rfl
  · rw [List.mem_range]
    constructor
    · exact fun hlt => ⟨hlt, by simp [Array.getD, hlt]⟩
    · exact fun h => h.1
  · have hf : ∀ i, (Array.replicate ops.size false).getD i false = false := fun i => by simp [Array.getD]
    refine ⟨by simp, fun i hi => ?_, fun i o _ hi => ?_, trivial, ha.1, fun t v hv _ => ha.2 t v hv, fun i hi => by simp at hi⟩
    · rw [hf] at hi; cases hi
    · rw [hf] at hi; cases hi
end
end Go.Proofs.YtjggmhpjlnmigaaDoor
