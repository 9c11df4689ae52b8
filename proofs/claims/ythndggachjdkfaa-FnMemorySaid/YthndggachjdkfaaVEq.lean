/- '==' of structs for walks. -/
import Derived.Test.YthndggachjdkfaaVProg
import Derived.Laws.StructEq
namespace Go.Proofs.Ythndggachjdkfaa
open Go.RowKit
set_option linter.unusedSimpArgs false
set_option linter.unusedVariables false
section
variable {P : Program} {d : Nat} {xs ys : Array Value} {f : Field} {fs : List Field} {a b : Value} {r s : Bool} {w : World}
theorem eqF_last (hn : (f.name == "_") = false) (ha : (part f.type xs f.offset).run P w = .ok a w) (hb : (part f.type ys f.offset).run P w = .ok b w) (he : (Op.equalIn d f.type a b).run P w = .ok r w) : (Op.eqFields d xs ys [f]).run P w = .ok r w := by
  have hn' : f.name ≠ "_" := by simpa using hn
  simp only [Op.eqFields, if_pos hn', Sem.run_bind, ha, hb, he, Result.andThen_ok]
  cases r <;> simp
theorem eqF_cons (hn : (f.name == "_") = false) (ha : (part f.type xs f.offset).run P w = .ok a w) (hb : (part f.type ys f.offset).run P w = .ok b w) (he : (Op.equalIn d f.type a b).run P w = .ok r w) (hr : (Op.eqFields d xs ys fs).run P w = .ok s w) : (Op.eqFields d xs ys (f :: fs)).run P w = .ok (r && s) w := by
  have hn' : f.name ≠ "_" := by simpa using hn
  rw [Op.eqFields]
  simp only [if_pos hn', Sem.run_bind, ha, hb, he, Result.andThen_ok]
  cases r
  · simp
  · simpa using hr
theorem eqS_of {t : TypeId} {fs : Array Field} (hu : P.underlying t = some (.struct fs)) (hp : P.stoodInHeld t = false) (h : (Op.eqFields d xs ys fs.toList).run P w = .ok r w) : (Op.equalIn (d + 1) t (.agg xs) (.agg ys)).run P w = .ok r w := by
  have hf : P.fieldsOf t = fs := by simp [Program.fieldsOf, hu]
  rw [run_equalIn_struct (P := P) w d t xs ys (by rw [hf]; exact hu) hp, hf]
  exact h
theorem EvEql.of {t : TypeId} {x y : Operand} {u v : Value} {K : Bool → Prop} {r : Bool} (hg : ∀ op w, (eqGuard op t x y u v).run P w = .ok () w) (he : ∀ d w, (Op.equalIn (d + 5) t u v).run P w = .ok r w) (k : K r) : EvEql P t x y u v K :=
  ⟨r, hg, fun w => by obtain ⟨d, e⟩ : ∃ d, Op.equal t u v = Op.equalIn (d + 5) t u v := ⟨9995, rfl⟩
                      rw [e]; exact he d w, k⟩
end
theorem eqInst (d : Nat) (w : World) (x0 y0 x1 y1 x2 y2 x3 y3 x4 y4 : Int) :
    (Op.equalIn (d + 2) 71 (.agg #[.int .i64 x0, .int .i64 x1, .int .i64 x2, .int .i64 x3, .int .i64 x4]) (.agg #[.int .i64 y0, .int .i64 y1, .int .i64 y2, .int .i64 y3, .int .i64 y4])).run Try.prog w = .ok (x0 == y0 && (x1 == y1 && (x2 == y2 && (x3 == y3 && (x4 == y4))))) w := by
  refine eqS_of Try.underlying71 (by kernel_rfl) ?_
  refine eqF_cons (by rfl) (by go_simp; rfl) (by go_simp; rfl) (by go_simp) ?_
  refine eqF_cons (by rfl) (by go_simp; rfl) (by go_simp; rfl) (by go_simp) ?_
  refine eqF_cons (by rfl) (by go_simp; rfl) (by go_simp; rfl) (by go_simp) ?_
  refine eqF_cons (by rfl) (by go_simp; rfl) (by go_simp; rfl) (by go_simp) ?_
  exact eqF_last (by rfl) (by go_simp; rfl) (by go_simp; rfl) (by go_simp)
theorem EvEql.inst {x y : Operand} {x0 y0 x1 y1 x2 y2 x3 y3 x4 y4 : Int} {K : Bool → Prop} (k : K (x0 == y0 && (x1 == y1 && (x2 == y2 && (x3 == y3 && (x4 == y4)))))) :
    EvEql Try.prog 71 x y (.agg #[.int .i64 x0, .int .i64 x1, .int .i64 x2, .int .i64 x3, .int .i64 x4]) (.agg #[.int .i64 y0, .int .i64 y1, .int .i64 y2, .int .i64 y3, .int .i64 y4]) K :=
  EvEql.of (fun op w => run_eqGuard_agg w op _ x y _ _ (by kernel_rfl)) (fun d w => eqInst (d + 3) w _ _ _ _ _ _ _ _ _ _) k
end Go.Proofs.Ythndggachjdkfaa
