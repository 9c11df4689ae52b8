/- Which registers are live: the least sets; what a right function gives. -/
import Derived.Test.YtjggmhpjlnmigaaDoorVOkM
namespace Go.Proofs.YtjggmhpjlnmigaaDoor
open Go.RowKit
set_option maxRecDepth 20000
set_option linter.unusedSimpArgs false
set_option linter.unusedVariables false
/-- what a step reads, sets, and where it goes on -/
def us (x : Ii) : List Int := x.l ++ ((if 0 < fld x.op / 4 % 4 ∧ 0 ≤ x.a then [x.a] else []) ++ (if fld x.op / 16 % 2 = 1 then [x.b] else []))
def st (x : Ii) : Int := if fld x.op % 4 = 0 then -1 else x.d
def nx (cl : List Ii) (i : Nat) (x : Ii) : List Int := if x.op = 14 then [] else if x.op = 12 then [lab cl x.n] else if x.op = 13 then [(i : Int) + 1, lab cl x.n] else [(i : Int) + 1]
inductive Lv (cl : List Ii) : Nat → Int → Prop
  | use {i : Nat} {x : Ii} {r : Int} (h : cl[i]? = some x) (u : r ∈ us x) : Lv cl i r
  | flow {i j : Nat} {x : Ii} {r : Int} (h : cl[i]? = some x) (n : (j : Int) ∈ nx cl i x) (l : Lv cl j r) (s : r ≠ st x) : Lv cl i r
open Classical in
/-- the numbers below n that are marked -/
noncomputable def marked (p : Int → Prop) (n : Nat) : List Int := ((List.range n).map Int.ofNat).filter fun r => decide (p r)
noncomputable def lvf (f : Fu) : List (List Int) := if fok f then (List.range f.cl.length).map (fun i => marked (Lv f.cl i) f.rg.toNat) else []
/-! ### it hangs on what the function reads as -/
def Ii.of (t : Int × Int × Int × Int × Int × ByteArray × List Int) : Ii := ⟨t.1, t.2.1, t.2.2.1, t.2.2.2.1, t.2.2.2.2.1, t.2.2.2.2.2.1, ⟨none, 0, 0⟩, t.2.2.2.2.2.2⟩
def Fu.of (t : ByteArray × Int × Int × List Int × List (Int × Int × Int × Int × Int × ByteArray × List Int)) : Fu := ⟨t.1, t.2.1, t.2.2.1, ⟨none, 0, 0⟩, t.2.2.2.1, ⟨none, 0, 0⟩, t.2.2.2.2.map Ii.of⟩
def Ii.cln (x : Ii) : Ii := Ii.of x.full
theorem isLab_cln (n : Int) (x : Ii) : isLab n x.cln = isLab n x := rfl
theorem lab_cln (cl : List Ii) (n : Int) : lab (cl.map Ii.cln) n = lab cl n := by
  unfold lab
  rw [List.findIdx?_map]
  rfl
theorem kok_cln (cl : List Ii) (k : Nat) (x : Ii) : kok (cl.map Ii.cln) k x.cln = kok cl k x := by
  unfold kok
  rw [lab_cln]
  rfl
theorem kall_cln (cl : List Ii) : ∀ (xs : List Ii) (k : Nat), kall (cl.map Ii.cln) k (xs.map Ii.cln) = kall cl k xs
  | [], k => rfl
  | x :: r, k => by simp only [List.map_cons, kall, kok_cln, kall_cln cl r]
theorem Fu.of_full (f : Fu) : Fu.of f.full = { f with sh := ⟨none, 0, 0⟩, ch := ⟨none, 0, 0⟩, cl := f.cl.map Ii.cln } := by
  unfold Fu.of Fu.full
  simp only [List.map_map]
  rfl
theorem fok_full (f : Fu) : fok (Fu.of f.full) = fok f := by
  rw [Fu.of_full]
  unfold fok hok
  simp only [kall_cln, List.length_map, List.getElem?_map, List.all_map]
  congr 1
  congr 1
  congr 1
  congr 1
  cases f.cl[f.cl.length - 1]? <;> rfl
theorem nx_cln (cl : List Ii) (i : Nat) (x : Ii) : nx (cl.map Ii.cln) i x.cln = nx cl i x := by
  unfold nx
  rw [show x.cln.n = x.n from rfl, lab_cln]
  rfl
theorem Lv_cln {cl : List Ii} {i : Nat} {r : Int} : Lv (cl.map Ii.cln) i r ↔ Lv cl i r := by
  constructor
  · intro h
    induction h with
    | use h u =>
      simp only [List.getElem?_map, Option.map_eq_some_iff] at h
      obtain ⟨y, hy, rfl⟩ := h
      exact .use hy u
    | flow h n l s ih =>
      simp only [List.getElem?_map, Option.map_eq_some_iff] at h
      obtain ⟨y, hy, rfl⟩ := h
      rw [nx_cln] at n
      exact .flow hy n ih s
  · intro h
    induction h with
    | use h u => exact .use (x := Ii.cln _) (by simp only [List.getElem?_map, h]; rfl) u
    | @flow i j x r h n l s ih => exact .flow (x := x.cln) (by simp only [List.getElem?_map, h]; rfl) (by rw [nx_cln]; exact n) ih s
theorem lvf_full (f : Fu) : lvf (Fu.of f.full) = lvf f := by
  unfold lvf
  rw [fok_full, Fu.of_full]
  simp only [List.length_map]
  congr 1
  refine congrArg (fun g => List.map g _) (funext fun i => ?_)
  congr 1
  funext r
  exact propext Lv_cln
/-! ### what a right function gives -/
structure Good (f : Fu) : Prop where
  pa : 0 ≤ f.pa ∧ f.pa ≤ 8 ∧ f.pa ≤ f.rg
  rg : 0 ≤ f.rg ∧ f.rg ≤ 2000
  len : 1 ≤ f.cl.length ∧ f.cl.length ≤ 8000
  op : ∀ {i : Nat} {x : Ii}, f.cl[i]? = some x → 1 ≤ x.op ∧ x.op ≤ 16
  args : ∀ {i : Nat} {x : Ii}, f.cl[i]? = some x → x.l.length ≤ 8 ∧ (x.l.length = 0 ∨ x.op = 9 ∨ x.op = 10)
  use : ∀ {i : Nat} {x : Ii} {r : Int}, f.cl[i]? = some x → r ∈ us x → 0 ≤ r ∧ r < f.rg
  set : ∀ {i : Nat} {x : Ii}, f.cl[i]? = some x → -1 ≤ st x ∧ st x < f.rg
  next : ∀ {i : Nat} {x : Ii} {j : Int}, f.cl[i]? = some x → j ∈ nx f.cl i x → 0 ≤ j ∧ j < f.cl.length
  iok : ∀ {i : Nat} {x : Ii}, f.cl[i]? = some x → iok f.rg f.sl.length x = true
theorem lab_lt {cl : List Ii} {n : Int} (h : 0 ≤ lab cl n) : lab cl n < cl.length := by
  unfold lab at h ⊢
  cases e : cl.findIdx? (isLab n) with
  | none => rw [e] at h; simp at h
  | some i =>
    have := (List.findIdx?_eq_some_iff_getElem.mp e).1
    simp only
    omega
theorem fld_tab (op : Int) (h : 1 ≤ op ∧ op ≤ 16) : fld op = if op = 1 then 33 else if op = 2 then 5 else if op = 3 then 53 else if op = 4 then 37 else if op = 5 then 37 else if op = 6 then 52 else if op = 7 then 97 else if op = 8 then 33 else if op = 9 then 194 else if op = 10 then 134 else if op = 11 then 32 else if op = 12 then 32 else if op = 13 then 116 else if op = 14 then 8 else if op = 15 then 52 else 36 := by
  obtain ⟨h1, h2⟩ := h
  have : op = 1 ∨ op = 2 ∨ op = 3 ∨ op = 4 ∨ op = 5 ∨ op = 6 ∨ op = 7 ∨ op = 8 ∨ op = 9 ∨ op = 10 ∨ op = 11 ∨ op = 12 ∨ op = 13 ∨ op = 14 ∨ op = 15 ∨ op = 16 := by omega
  rcases this with rfl | rfl | rfl | rfl | rfl | rfl | rfl | rfl | rfl | rfl | rfl | rfl | rfl | rfl | rfl | rfl <;> rfl
theorem iok_yes {rg m : Int} {x : Ii} (h : iok rg m x = true) : (1 ≤ x.op ∧ x.op ≤ 16) ∧ rok rg x.d (fld x.op % 4) = true ∧ rok rg x.a (fld x.op / 4 % 4) = true ∧ rok rg x.b (fld x.op / 16 % 2) = true ∧ nok m x.op x.n = true ∧ x.l.length ≤ 8 ∧ (128 ≤ fld x.op ∨ x.l.length = 0) ∧ ∀ r ∈ x.l, rok rg r 1 = true := by
  unfold iok at h
  split at h
  · cases h
  · rename_i c1
    split at h
    · cases h
    · rename_i c2
      split at h
      · cases h
      · rename_i c3
        simp only [Bool.or_eq_true, Bool.not_eq_true', not_or, Bool.not_eq_false] at c2
        exact ⟨by omega, c2.1.1.1, c2.1.1.2, c2.1.2, c2.2, by omega, by omega, List.all_eq_true.mp h⟩
theorem rok_yes {rg r how : Int} (h : rok rg r how = true) (h1 : 0 < how) : r < rg ∧ (0 ≤ r ∨ (how = 2 ∧ r = -1)) := by
  unfold rok at h
  rw [if_neg (by omega)] at h
  simpa using h
theorem good_of {f : Fu} (h : fok f = true) : Good f := by
  have h' := h
  unfold fok hok at h
  simp only [Bool.and_eq_true, decide_eq_true_eq] at h
  obtain ⟨⟨⟨⟨a, b⟩, c⟩, d⟩, e⟩ := h
  have io : ∀ {i : Nat} {x : Ii}, f.cl[i]? = some x → iok f.rg f.sl.length x = true := by
    intro i x hx
    have := List.all_eq_true.mp d x (List.mem_of_getElem? hx)
    unfold lok at this
    simp only [Bool.and_eq_true] at this
    exact this.1.1
  have op : ∀ {i : Nat} {x : Ii}, f.cl[i]? = some x → 1 ≤ x.op ∧ x.op ≤ 16 := fun hx => (iok_yes (io hx)).1
  refine ⟨by omega, by omega, by omega, op, ?_, ?_, ?_, ?_, io⟩
  · intro i x hx
    obtain ⟨h1, h2, h3, h4, h5, h6, h7, h8⟩ := iok_yes (io hx)
    refine ⟨h6, ?_⟩
    have ht := fld_tab x.op h1
    rcases h7 with h7 | h7
    · right
      rw [ht] at h7
      clear ht h2 h3 h4 h5 h8
      repeat' split at h7
      all_goals omega
    · exact .inl h7
  · intro i x r hx hr
    obtain ⟨h1, h2, h3, h4, h5, h6, h7, h8⟩ := iok_yes (io hx)
    unfold us at hr
    rcases List.mem_append.mp hr with hr | hr
    · have := rok_yes (h8 r hr) (by decide)
      omega
    · rcases List.mem_append.mp hr with hr | hr
      · split at hr
        · rename_i c1
          obtain rfl := List.mem_singleton.mp hr
          have := rok_yes h3 (by omega)
          omega
        · cases hr
      · split at hr
        · rename_i c1
          obtain rfl := List.mem_singleton.mp hr
          rw [c1] at h4
          have := rok_yes h4 (by decide)
          omega
        · cases hr
  · intro i x hx
    obtain ⟨h1, h2, h3, h4, h5, h6, h7, h8⟩ := iok_yes (io hx)
    unfold st
    split
    · omega
    · rename_i c1
      have ht := fld_tab x.op h1
      have := rok_yes h2 (by have := fld_r x.op; omega)
      omega
  · intro i x j hx hj
    have hlt := (List.getElem?_eq_some_iff.mp hx).1
    have hk := (kall_iff f.cl f.cl 0).mp e i x hx
    rw [Nat.zero_add] at hk
    unfold nx at hj
    have hlast : x.op ≠ 14 → (i : Int) + 1 < f.cl.length := by
      intro hne
      have : i ≠ f.cl.length - 1 := by
        intro e1
        rw [← e1, hx] at b
        simp at b
        exact hne b
      omega
    have hlab : x.op = 12 ∨ x.op = 13 → 0 ≤ lab f.cl x.n := by
      intro ho
      have h1 : 0 ≤ lab f.cl x.n ∨ ¬(0 ≤ lab f.cl x.n) := by omega
      rcases h1 with h1 | h1
      · exact h1
      · rw [kok_n2 ho h1] at hk
        cases hk
    split at hj
    · cases hj
    · rename_i n14
      have h1 := hlast n14
      split at hj
      · rename_i e12
        obtain rfl := List.mem_singleton.mp hj
        have := hlab (.inl e12)
        have := lab_lt this
        omega
      · split at hj
        · rename_i e13
          have := hlab (.inr e13)
          have := lab_lt this
          rcases List.mem_cons.mp hj with rfl | hj
          · omega
          · obtain rfl := List.mem_singleton.mp hj
            omega
        · obtain rfl := List.mem_singleton.mp hj
          omega
theorem Lv.bd {f : Fu} (g : Good f) {i : Nat} {r : Int} (h : Lv f.cl i r) : 0 ≤ r ∧ r < f.rg := by
  induction h with
  | use h u => exact g.use h u
  | flow _ _ _ _ ih => exact ih
end Go.Proofs.YtjggmhpjlnmigaaDoor
