/- Walks: the reference's run of the machine. -/
import Derived.Test.YthndggachjdkfaaVRefC
import Derived.Test.YthndggachjdkfaaVLw
namespace Go.Proofs.Ythndggachjdkfaa
open Go.RowKit
set_option maxRecDepth 20000
set_option linter.unusedSimpArgs false
set_option linter.unusedVariables false
def decI (w : Int) : Ins := (ins w).getD ⟨0, 0, 0, 0, 0⟩
abbrev Ins.cs (i : Ins) : List Value := [.int .i64 i.op, .int .i64 i.d, .int .i64 i.s, .int .i64 i.t, .int .i64 i.n]
def insC (l : List Int) : List Value := l.flatMap fun w => (decI w).cs
theorem insC_len : ∀ l : List Int, (insC l).length = l.length * 5
  | [] => rfl
  | w :: l => by
    have := insC_len l
    unfold insC at this ⊢
    rw [List.flatMap_cons, List.length_append, this, List.length_cons]
    simp only [Ins.cs, List.length_cons, List.length_nil]
    omega
theorem insC_get : ∀ (l : List Int) (j k : Nat), j < l.length → k < 5 → (insC l)[j * 5 + k]? = (decI (l.getD j 0)).cs[k]?
  | [], _, _, h, _ => absurd h (by simp)
  | w :: l, 0, k, _, hk => by
    unfold insC
    rw [List.flatMap_cons, List.getElem?_append_left (by simp [Ins.cs]; omega)]
    simp
  | w :: l, j + 1, k, h, hk => by
    have := insC_get l j k (by simpa using h) hk
    unfold insC at this ⊢
    rw [List.flatMap_cons, List.getElem?_append_right (by simp [Ins.cs]; omega), show (j + 1) * 5 + k - (decI w).cs.length = j * 5 + k by simp [Ins.cs]; omega, this]
    simp
theorem EvIdx.insr {h : Hp} {A : Option Addr} {l : List Int} {i : Int} {n : Nat} {K : Nat → Nat → Prop} (j : Int) (hj : i = j) (r : Rd h A (insC l)) (hl : l.length = n) (h0 : 0 ≤ j) (h1 : j < n)
    (k : ∀ b o, A = some ⟨b, o, none⟩ → (∀ q v, (decI (l.getD j.toNat 0)).cs[q]? = some v → hcell h b (o + i.toNat * 5 + q) = some v) → K b o) : EvIdx A i n K := by
  subst hj
  have hlt : i.toNat < l.length := by omega
  have hc : (insC l)[i.toNat * 5 + 0]? = some (.int .i64 (decI (l.getD i.toNat 0)).op) := insC_get l i.toNat 0 hlt (by decide)
  obtain ⟨b, o, e, _⟩ := r _ _ hc
  refine ⟨b, o, e, h0, h1, k b o e (fun q v hv => ?_)⟩
  have hq : q < 5 := (List.getElem?_eq_some_iff.mp hv).1
  obtain ⟨b', o', e', h'⟩ := r (i.toNat * 5 + q) v (by rw [insC_get l i.toNat q hlt hq]; exact hv)
  rw [e] at e'
  cases e'
  rw [Nat.add_assoc]
  exact h'
theorem EvLdN.ins {h : Hp} {b o : Nat} {i : Ins} {K : List Value → Prop} (f : ∀ q v, i.cs[q]? = some v → hcell h b (o + q) = some v) (k : K i.cs) : EvLdN h b o 5 K := ⟨i.cs, rfl, f, k⟩
theorem doI_code (m : Mac) (i : Ins) : (doI m i).1.code = m.code := by
  have hs : ∀ kd a w, (stM m kd a w).code = m.code := by
    intro kd a w
    obtain ⟨d, s, e⟩ := stM_form m kd a w
    rw [e]
  have he : (ecl m).1.code = m.code := by
    unfold ecl
    split
    · split <;> rfl
    split
    · split <;> rfl
    split
    · rfl
    split
    · rfl
    · rfl
  unfold doI
  split
  · rfl
  split
  · rfl
  split
  · split <;> rfl
  split
  · rfl
  split
  · split
    · rfl
    · exact hs _ _ _
  split
  · rfl
  split
  · rfl
  split
  · rfl
  split
  · rfl
  split
  · rfl
  · exact he
theorem stp_code (m : Mac) : (stp m).1.code = m.code := by
  unfold stp
  split
  · split
    · rfl
    · exact doI_code m _
  · rfl
theorem step1_code (m : Mac) : (step1 m).code = m.code := by
  unfold step1
  dsimp only
  split
  · exact stp_code _
  · exact stp_code _
theorem l3Index_v (p : Int) (A : Option Addr) (n c : Nat) (z : Int) (hz : (if isPc n p then (p - 65536) / 4 else -1) = z) (h : Hp) (hn : n ≤ 1000000000) (p0 : -9223372036854775808 ≤ p) (p1 : p ≤ 9223372036854775807) : HC Try.prog 49 [.slice A n c, .int .i64 p] h fun v h' => v = .int .i64 z ∧ h' = h := hz ▸ l3Index_c p A n c h hn p0 p1
set_option maxHeartbeats 8000000 in
theorem l3Step_c {h0 h : Hp} {L : List Asn} {x : MH} {m : Mac} {b : Nat} {A : Option Addr} {n c : Nat} {cd : List Int} (HS : Sep h0 h (Bx b (x.cs m) 36 :: (x.own m ++ (Sz 71 5 A n c (insC cd) :: L)))) (hcd : m.code = cd) (ok : Ok m) (hg : goes m = true) :
    HC Try.prog 142 [.pointer (some ⟨b, 0, none⟩), .slice A n c] h fun v h' => ∃ x' : MH, Sep h0 h' (Bx b (x'.cs (step1 m)) 36 :: (x'.own (step1 m) ++ (Sz 71 5 A n c (insC cd) :: L))) := by
  subst hcd
  have r := HS.tail.rdm
  have hcl := r.cl
  have c1 := ok.c1
  have p0 := ok.p0
  have p1 := ok.p1
  have t0 := ok.t0
  have t1 := ok.t1
  have hlz := (HS.lenz 7 rfl).1
  rw [insC_len] at hlz
  have hn : m.code.length = n := by omega
  unfold goes at hg
  rw [decide_eq_true_eq] at hg
  have es : IntKind.i64.wrap (m.steps + 1) = m.steps + 1 := i64w _ (by omega) (by omega)
  have ok1 : Ok { m with steps := m.steps + 1 } := { ok with t0 := by show 0 ≤ m.steps + 1; omega, t1 := by show m.steps + 1 ≤ _; omega }
  by_cases hpc : isPc m.code.length m.pc = true
  · have hpc' : isPc x.c.n m.pc = true := by rw [← hcl]; exact hpc
    have hz : (if isPc x.c.n m.pc then (m.pc - 65536) / 4 else -1) = (m.pc - 65536) / 4 := if_pos hpc'
    obtain ⟨ei, i0, i1, _⟩ := isPc_at hpc' p1
    cases hi : ins (m.code.getD ((m.pc - 65536) / 4).toNat 0) with
    | none =>
      have hd : decI (m.code.getD ((m.pc - 65536) / 4).toNat 0) = ⟨0, 0, 0, 0, 0⟩ := by unfold decI; rw [hi]; rfl
      have e1 : step1 m = { m with steps := m.steps + 1, fin := 2, value := 2 } := by
        have : stp { m with steps := m.steps + 1 } = ({ m with steps := m.steps + 1 }, 2) := by unfold stp; rw [if_pos hpc]; dsimp only; rw [hi]
        unfold step1
        rw [this]
        rfl
      rw [e1]
      refine hc_of Try.func142 (rfl : Try.f142.body = some _) Try.ntmps142 Try.results142 Try.call142 rfl ?_; conv => whnf
      repeat' ((first | ((with_reducible refine EvDraw.ord (id := 1) (.go 0 (.go 1 (.go 2 (.go 3 (.go 4 (.go 5 (.go 6 (.go 7 (.alt 8 (.go 9 .done) .stop))))))))) fol ?_ ?_ ?_); kernel_rfl; kernel_rfl) | ((refine EvIdx.insr _ rfl (HS.rdz 7 rfl) hn (by omega) (by omega) ?_); intro bI oI eI hI; rw [hd] at hI) | ((refine EvLd.at_ (hI 0 _ rfl) ?_)) | ((with_reducible refine EvCall.mk (HC.mono (l3Index_v _ _ _ _ _ hz _ (by omega) (by omega) (by omega)) ?_)); (rintro _ _ ⟨rfl, rfl⟩)) | (with_reducible first | refine EvSeq.go ?_ | refine EvIf.tt ?_ | refine EvIf.ff ?_) | ((with_reducible refine Hole.mk (kK ?_)); clear kK) | ((with_reducible refine EvIf.mk (fun c => ?_) (fun c => ?_)) <;> (try simp only [cs_] at c) <;> (try (exfalso; first | omega | (revert c; decide)))) | ((with_reducible refine EvNew.sep HS ?_); intro bN hN HS1 hX; replace HS := HS1; clear HS1) | ((with_reducible refine EvIdx.lit ?_ ?_ ?_); (first | omega | decide); (first | omega | decide)) | ((with_reducible first | refine EvNe.mk ?_ ?_ | refine EvGe.mk ?_ ?_); (first | decide | omega)) | ((with_reducible refine EvLd.q HS (by repeat first | exact .h | apply Spot.t) ?_); (conv => whnf); intro hC) | (with_reducible refine EvLdN.q HS (by repeat first | exact .h | apply Spot.t) (fun hC => ?_)) | ((with_reducible refine EvSt.q HS (by repeat first | exact .h | apply Spot.t) ?_); (conv => whnf); intro hN HS1 hU; replace HS := HS1; clear HS1) | ((with_reducible refine EvKeep.cq (A := keepK _ _ (Hole _) _) HS (by repeat first | exact .h | apply Spot.t) ?_); (conv => whnf); (refine ⟨?_, ?_⟩); assumption; intro hC) | ((with_reducible refine EvKeep.nq (A := keepK _ _ (Hole _) _) HS (by repeat first | exact .h | apply Spot.t) ?_ ?_); assumption; intro hC) | ((fail_if_success with_reducible refine EvKeep.hole ?_); (with_reducible refine EvKeep.abs (fun X kK => ?_)))) <;> conv => whnf)
      rw [es] at HS
      exact ⟨x, HS⟩
    | some i =>
      have hd : decI (m.code.getD ((m.pc - 65536) / 4).toNat 0) = i := by unfold decI; rw [hi]; rfl
      have hiok := ins_ok hi
      have q := iok_d hiok
      have e1 : step1 m = (if (doI { m with steps := m.steps + 1 } i).2 ≠ 0 then { (doI { m with steps := m.steps + 1 } i).1 with fin := 2, value := (doI { m with steps := m.steps + 1 } i).2 } else (doI { m with steps := m.steps + 1 } i).1) := by
        have : stp { m with steps := m.steps + 1 } = doI { m with steps := m.steps + 1 } i := by unfold stp; rw [if_pos hpc]; dsimp only; rw [hi]
        unfold step1
        rw [this]
      rw [e1]
      refine hc_of Try.func142 (rfl : Try.f142.body = some _) Try.ntmps142 Try.results142 Try.call142 rfl ?_; conv => whnf
      repeat' ((first | ((with_reducible refine EvDraw.ord (id := 1) (.go 0 (.go 1 (.go 2 (.go 3 (.go 4 (.go 5 (.go 6 (.go 7 (.alt 8 (.go 9 .done) .stop))))))))) fol ?_ ?_ ?_); kernel_rfl; kernel_rfl) | ((refine EvIdx.insr _ rfl (HS.rdz 7 rfl) hn (by omega) (by omega) ?_); intro bI oI eI hI; rw [hd] at hI) | ((refine EvLdN.ins hI ?_)) | ((refine EvLd.at_ (hI 0 _ rfl) ?_)) | ((with_reducible refine EvCall.mk (HC.mono (l3Index_v _ _ _ _ _ hz _ (by omega) (by omega) (by omega)) ?_)); (rintro _ _ ⟨rfl, rfl⟩)) | (with_reducible first | refine EvSeq.go ?_ | refine EvIf.tt ?_ | refine EvIf.ff ?_) | ((with_reducible refine Hole.mk (kK ?_)); clear kK) | ((with_reducible refine EvIf.mk (fun c => ?_) (fun c => ?_)) <;> (try simp only [cs_] at c) <;> (try (exfalso; first | omega | (revert c; decide)))) | ((with_reducible refine EvNew.sep HS ?_); intro bN hN HS1 hX; replace HS := HS1; clear HS1) | ((with_reducible refine EvIdx.lit ?_ ?_ ?_); (first | omega | decide); (first | omega | decide)) | ((with_reducible first | refine EvNe.mk ?_ ?_ | refine EvGe.mk ?_ ?_); (first | decide | omega)) | ((with_reducible refine EvLd.q HS (by repeat first | exact .h | apply Spot.t) ?_); (conv => whnf); intro hC) | (with_reducible refine EvLdN.q HS (by repeat first | exact .h | apply Spot.t) (fun hC => ?_)) | ((with_reducible refine EvSt.q HS (by repeat first | exact .h | apply Spot.t) ?_); (conv => whnf); intro hN HS1 hU; replace HS := HS1; clear HS1) | ((with_reducible refine EvKeep.cq (A := keepK _ _ (Hole _) _) HS (by repeat first | exact .h | apply Spot.t) ?_); (conv => whnf); (refine ⟨?_, ?_⟩); assumption; intro hC) | ((with_reducible refine EvKeep.nq (A := keepK _ _ (Hole _) _) HS (by repeat first | exact .h | apply Spot.t) ?_ ?_); assumption; intro hC) | ((fail_if_success with_reducible refine EvKeep.hole ?_); (with_reducible refine EvKeep.abs (fun X kK => ?_)))) <;> conv => whnf)
      rw [es] at HS
      refine EvCall.mk ((l3Do_c (x := x) (m := { m with steps := m.steps + 1 }) HS ok1 hg.1 hiok).mono ?_)
      rintro _ hN ⟨x', rfl, HS1⟩
      replace HS := HS1
      clear HS1
      conv => whnf
      repeat' ((first | (with_reducible first | refine EvSeq.go ?_ | refine EvIf.tt ?_ | refine EvIf.ff ?_) | ((with_reducible refine Hole.mk (kK ?_)); clear kK) | ((with_reducible refine EvIf.mk (fun c => ?_) (fun c => ?_)) <;> (try simp only [cs_] at c) <;> (try (exfalso; first | omega | (revert c; decide)))) | ((with_reducible refine EvNew.sep HS ?_); intro bN hN HS1 hX; replace HS := HS1; clear HS1) | ((with_reducible refine EvIdx.lit ?_ ?_ ?_); (first | omega | decide); (first | omega | decide)) | ((with_reducible first | refine EvNe.mk ?_ ?_ | refine EvGe.mk ?_ ?_); (first | decide | omega)) | ((with_reducible refine EvLd.q HS (by repeat first | exact .h | apply Spot.t) ?_); (conv => whnf); intro hC) | (with_reducible refine EvLdN.q HS (by repeat first | exact .h | apply Spot.t) (fun hC => ?_)) | ((with_reducible refine EvSt.q HS (by repeat first | exact .h | apply Spot.t) ?_); (conv => whnf); intro hN HS1 hU; replace HS := HS1; clear HS1) | ((with_reducible refine EvKeep.cq (A := keepK _ _ (Hole _) _) HS (by repeat first | exact .h | apply Spot.t) ?_); (conv => whnf); (refine ⟨?_, ?_⟩); assumption; intro hC) | ((with_reducible refine EvKeep.nq (A := keepK _ _ (Hole _) _) HS (by repeat first | exact .h | apply Spot.t) ?_ ?_); assumption; intro hC) | ((fail_if_success with_reducible refine EvKeep.hole ?_); (with_reducible refine EvKeep.abs (fun X kK => ?_)))) <;> conv => whnf)
      · rw [if_pos c]
        exact ⟨x', HS⟩
      · rw [if_neg (fun h => h c)]
        exact ⟨x', HS⟩
  · have hpc' : isPc x.c.n m.pc = false := by rw [← hcl]; simpa using hpc
    have hz : (if isPc x.c.n m.pc then (m.pc - 65536) / 4 else -1) = -1 := if_neg (by rw [hpc']; simp)
    have e1 : step1 m = { m with steps := m.steps + 1, fin := 2, value := 1 } := by
      have : stp { m with steps := m.steps + 1 } = ({ m with steps := m.steps + 1 }, 1) := by unfold stp; rw [if_neg hpc]
      unfold step1
      rw [this]
      rfl
    rw [e1]
    refine hc_of Try.func142 (rfl : Try.f142.body = some _) Try.ntmps142 Try.results142 Try.call142 rfl ?_; conv => whnf
    repeat' ((first | ((with_reducible refine EvDraw.ord (id := 1) (.go 0 (.go 1 (.go 2 (.go 3 (.go 4 (.go 5 (.go 6 (.go 7 (.alt 8 (.go 9 .done) .stop))))))))) fol ?_ ?_ ?_); kernel_rfl; kernel_rfl) | ((with_reducible refine EvCall.mk (HC.mono (l3Index_v _ _ _ _ _ hz _ (by omega) (by omega) (by omega)) ?_)); (rintro _ _ ⟨rfl, rfl⟩)) | (with_reducible first | refine EvSeq.go ?_ | refine EvIf.tt ?_ | refine EvIf.ff ?_) | ((with_reducible refine Hole.mk (kK ?_)); clear kK) | ((with_reducible refine EvIf.mk (fun c => ?_) (fun c => ?_)) <;> (try simp only [cs_] at c) <;> (try (exfalso; first | omega | (revert c; decide)))) | ((with_reducible refine EvNew.sep HS ?_); intro bN hN HS1 hX; replace HS := HS1; clear HS1) | ((with_reducible refine EvIdx.lit ?_ ?_ ?_); (first | omega | decide); (first | omega | decide)) | ((with_reducible first | refine EvNe.mk ?_ ?_ | refine EvGe.mk ?_ ?_); (first | decide | omega)) | ((with_reducible refine EvLd.q HS (by repeat first | exact .h | apply Spot.t) ?_); (conv => whnf); intro hC) | (with_reducible refine EvLdN.q HS (by repeat first | exact .h | apply Spot.t) (fun hC => ?_)) | ((with_reducible refine EvSt.q HS (by repeat first | exact .h | apply Spot.t) ?_); (conv => whnf); intro hN HS1 hU; replace HS := HS1; clear HS1) | ((with_reducible refine EvKeep.cq (A := keepK _ _ (Hole _) _) HS (by repeat first | exact .h | apply Spot.t) ?_); (conv => whnf); (refine ⟨?_, ?_⟩); assumption; intro hC) | ((with_reducible refine EvKeep.nq (A := keepK _ _ (Hole _) _) HS (by repeat first | exact .h | apply Spot.t) ?_ ?_); assumption; intro hC) | ((fail_if_success with_reducible refine EvKeep.hole ?_); (with_reducible refine EvKeep.abs (fun X kK => ?_)))) <;> conv => whnf)
    rw [es] at HS
    exact ⟨x, HS⟩
end Go.Proofs.Ythndggachjdkfaa
