/- Places: the program's closures. -/
import Derived.Test.YtjggmhpjlnmigaaDoorVAl
import Derived.Test.YtjggmhpjlnmigaaDoorVPl3
namespace Go.Proofs.YtjggmhpjlnmigaaDoor
open Go.RowKit
set_option maxRecDepth 20000
set_option linter.unusedSimpArgs false
set_option linter.unusedVariables false
/-- a register is spilled -/
theorem spill_c {h0 h : Hp} {M : List Asn} {b4 b9 R cb r s : Nat} {B : Option Addr} {ps : List Pl} (HS : Sep h0 h (Bx b4 [.slice B R cb] 42 :: PlP B R cb ps :: Bx b9 [.int .i64 s] 3 :: M)) (hr : r < R) (hs : s ≤ 100000) (hR : R ≤ 100000) :
    HC Tryd.prog 49 [.int .i64 r, .pointer (some ⟨b9, 0, none⟩), .pointer (some ⟨b4, 0, none⟩)] h fun v h' => v = .tuple #[] ∧ Sep h0 h' (Bx b4 [.slice B R cb] 42 :: PlP B R cb (ps.set r ⟨0, s⟩) :: Bx b9 [.int .i64 (s + 1 : Nat)] 3 :: M) := by
  have hl := (HS.ppl 1 rfl).1
  obtain ⟨x, hx⟩ : ∃ x, ps[r]? = some x := ⟨_, List.getElem?_eq_getElem (by omega)⟩
  refine hc_of Tryd.func49 (rfl : Tryd.f49.body = some _) Tryd.ntmps49 Tryd.results49 Tryd.call49 rfl ?_; conv => whnf
  repeat' ((first | ((with_reducible refine EvIdx.el Pl.len (by decide) (HS.ppr 1 rfl) (HS.ppl 1 rfl).1 (by omega) (by omega) ?_); intro bI oI z eI hz hI) | ((with_reducible refine EvLd.q HS (by repeat first | exact .h | apply Spot.t) ?_); (conv => whnf); intro hC)) <;> conv => whnf)
  refine EvSt.pp HS 1 rfl eI hx ⟨0, s⟩ 0 (by first | rfl | (rw [Int.toNat_natCast]; rfl)) (by simp) rfl ?_
  intro h2 HS2
  clear HS
  have HS := HS2
  clear HS2
  dsimp only [List.set] at HS
  conv => whnf
  repeat' ((first | ((with_reducible refine EvLd.q HS (by repeat first | exact .h | apply Spot.t) ?_); (conv => whnf); intro hC) | ((with_reducible refine EvSt.q HS (by repeat first | exact .h | apply Spot.t) ?_); (conv => whnf); intro hN HS1 hU; replace HS := HS1; clear HS1)) <;> conv => whnf)
  have e : IntKind.i64.wrap ((s : Int) + 1) = ((s + 1 : Nat) : Int) := by rw [i64w _ (by omega) (by omega)]; omega
  rw [e] at HS
  exact ⟨rfl, HS⟩
/-- a register takes a machine register -/
theorem take_c {h0 h : Hp} {M : List Asn} {b4 b8 R cb r rm : Nat} {m : Int} {B : Option Addr} {ps : List Pl} {g : Int → Option Value} (HS : Sep h0 h (Bx b4 [.slice B R cb] 42 :: PlP B R cb ps :: Bx b8 [.map (some rm)] 76 :: MapP rm g :: M)) (hr : r < R) (hR : R ≤ 100000) :
    HC Tryd.prog 50 [.int .i64 r, .int .i64 m, .pointer (some ⟨b4, 0, none⟩), .pointer (some ⟨b8, 0, none⟩)] h fun v h' => v = .tuple #[] ∧ Sep h0 h' (Bx b4 [.slice B R cb] 42 :: PlP B R cb (ps.set r ⟨m, -1⟩) :: Bx b8 [.map (some rm)] 76 :: MapP rm (fun q => if q = m then some (.int .i64 r) else g q) :: M) := by
  have hl := (HS.ppl 1 rfl).1
  obtain ⟨x, hx⟩ : ∃ x, ps[r]? = some x := ⟨_, List.getElem?_eq_getElem (by omega)⟩
  refine hc_of Tryd.func50 (rfl : Tryd.f50.body = some _) Tryd.ntmps50 Tryd.results50 Tryd.call50 rfl ?_; conv => whnf
  repeat' ((first | ((with_reducible refine EvIdx.el Pl.len (by decide) (HS.ppr 1 rfl) (HS.ppl 1 rfl).1 (by omega) (by omega) ?_); intro bI oI z eI hz hI) | ((with_reducible refine EvLd.q HS (by repeat first | exact .h | apply Spot.t) ?_); (conv => whnf); intro hC)) <;> conv => whnf)
  refine EvSt.pp HS 1 rfl eI hx ⟨m, -1⟩ 0 (by first | rfl | (rw [Int.toNat_natCast]; rfl)) (by simp) rfl ?_
  intro h2 HS2
  clear HS
  have HS := HS2
  clear HS2
  dsimp only [List.set] at HS
  conv => whnf
  repeat' (((with_reducible refine EvLd.q HS (by repeat first | exact .h | apply Spot.t) ?_); (conv => whnf); intro hC) <;> conv => whnf)
  refine EvPut.mp HS (by repeat first | exact .h | apply Spot.t) Tryd.underlying3 ?_
  intro h3 HS3
  clear HS
  have HS := HS3
  clear HS3
  conv => whnf
  repeat' (fail <;> conv => whnf)
  exact ⟨rfl, HS⟩
end Go.Proofs.YtjggmhpjlnmigaaDoor
