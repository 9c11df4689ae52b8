/- Walks: the program's step: calls to the world. -/
import Derived.Test.YthndggachjdkfaaVStepD
namespace Go.Proofs.Ythndggachjdkfaa
open Go.RowKit
set_option maxRecDepth 20000
set_option linter.unusedSimpArgs false
set_option linter.unusedVariables false
theorem Sl.cut1 {T : TypeId} {A : Option Addr} {n c : Nat} {v : Value} {vs : List Value} {h : Hp} {S : Foot} (a : (Sl T A n c (v :: vs)).at_ h S) : (Sl T (if ((c : Int)).toNat = Int.toNat 1 then A else Option.map (fun x => x.add (Int.toNat 1 * 1)) A) ((n : Int).toNat - Int.toNat 1) ((c : Int).toNat - Int.toNat 1) vs).at_ h S := by
  have h1 := a.1
  have h2 := a.2.1
  simp only [List.length_cons] at h1
  simp only [Int.toNat_natCast, show Int.toNat 1 = 1 from rfl]
  by_cases hc : c = 1
  · subst hc
    obtain rfl : n = 1 := by omega
    obtain rfl : vs = [] := List.eq_nil_of_length_eq_zero (by omega)
    exact ⟨rfl, Nat.le_refl _, .inl rfl⟩
  · rw [if_neg hc]
    rcases a.2.2 with h3 | ⟨b, pre, rest, e, _⟩
    · omega
    · subst e
      simp only [Option.map_some, Nat.one_mul, Addr.add_lit]
      exact Sl.cut a
end Go.Proofs.Ythndggachjdkfaa
