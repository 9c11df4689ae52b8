/- Images, and the reference about them. -/
import Derived.Test.YthndggachjdkfaaVPc
import Derived.Test.YthndggachjdkfaaVSt2
import Derived.Test.YthndggachjdkfaaVLw
namespace Go.Proofs.Ythndggachjdkfaa
open Go.RowKit
set_option maxRecDepth 20000
set_option linter.unusedSimpArgs false
set_option linter.unusedVariables false
@[ext] structure Img where
  code : List Int
  data : List Int
  entry : Int
  stack : Int
deriving DecidableEq
structure IH where
  c : Hdr
  d : Hdr
abbrev IH.v (x : IH) (m : Img) : Value := .agg #[x.c.v, x.d.v, .int .i64 m.entry, .int .i64 m.stack]
abbrev IH.own (x : IH) (m : Img) : List Asn := [SlB x.d m.data, SlI x.c m.code]
structure RdI (h : Hp) (x : IH) (m : Img) : Prop where
  c : Rd h x.c.a (ints .i64 m.code)
  d : Rd h x.d.a (ints .u8 m.data)
  cl : m.code.length = x.c.n
  dl : m.data.length = x.d.n
theorem RdI.ext {h h' : Hp} {x : IH} {m : Img} (r : RdI h x m) (e : Ext h h') : RdI h' x m := ⟨r.c.ext e, r.d.ext e, r.cl, r.dl⟩
theorem Sep.rdi {h0 h : Hp} {L : List Asn} {x : IH} {m : Img} (s : Sep h0 h (x.own m ++ L)) : RdI h x m :=
  ⟨s.rd 1 rfl, s.rd 0 rfl, by simpa using (s.len 1 rfl).1, by simpa using (s.len 0 rfl).1⟩
structure SmI (x : IH) : Prop where
  c : x.c.n ≤ 1000000000
  d : x.d.n ≤ 1000000000
abbrev Mi (x : IH) (m : Img) : Asn := All (x.own m)
theorem Sep.rdi_i {h0 h : Hp} {L : List Asn} (s : Sep h0 h L) (i : Nat) {x : IH} {m : Img} (hi : L[i]? = some (Mi x m)) : RdI h x m := (s.front i hi).unfold.rdi
def imok (m : Img) : Bool := codeOk m.code && (decide (m.data.length ≤ 65536) && (isPc m.code.length m.entry && stackOk m.stack))
theorem sImok_c {h : Hp} {x : IH} {m : Img} (r : RdI h x m) (b : SmI x) (p0 : -9223372036854775808 ≤ m.entry) (p1 : m.entry ≤ 9223372036854775807) : HC Try.prog 12 [x.v m] h fun v h' => v = .bool (imok m) ∧ Ext h h' := by
  have hd := r.dl
  have hc := r.cl
  refine hc_of Try.func12 (rfl : Try.f12.body = some _) Try.ntmps12 Try.results12 Try.call12 rfl ?_; have HS := Sep.nil h; conv => whnf
  repeat' ((first | ((with_reducible refine EvCall.mk (HC.mono (l3CodeOk_c (r.c.ext HS.to_ext) r.cl b.c) ?_)); (rintro _ _ ⟨rfl, rfl⟩)) | ((with_reducible refine EvCall.mk (HC.mono (l3StackOk_c _ _) ?_)); (rintro _ _ ⟨rfl, rfl⟩)) | ((with_reducible refine EvCall.mk (HC.mono (l3Index_c _ _ _ _ _ b.c p0 p1) ?_)); (rintro _ _ ⟨rfl, rfl⟩)) | (with_reducible first | refine EvSeq.go ?_ | refine EvIf.tt ?_ | refine EvIf.ff ?_) | ((with_reducible refine Hole.mk (kK ?_)); clear kK) | ((with_reducible refine EvIf.mk (fun c => ?_) (fun c => ?_)) <;> (try simp only [cs_] at c) <;> (try (exfalso; first | omega | (revert c; decide)))) | ((with_reducible refine EvNew.sep HS ?_); intro bN hN HS1 hX; replace HS := HS1; clear HS1) | ((with_reducible refine EvIdx.lit ?_ ?_ ?_); (first | omega | decide); (first | omega | decide)) | ((with_reducible first | refine EvNe.mk ?_ ?_ | refine EvGe.mk ?_ ?_); (first | decide | omega)) | ((with_reducible refine EvLd.q HS (by repeat first | exact .h | apply Spot.t) ?_); (conv => whnf); intro hC) | (with_reducible refine EvLdN.q HS (by repeat first | exact .h | apply Spot.t) (fun hC => ?_)) | ((with_reducible refine EvSt.q HS (by repeat first | exact .h | apply Spot.t) ?_); (conv => whnf); intro hN HS1 hU; replace HS := HS1; clear HS1) | ((with_reducible refine EvKeep.cq (A := keepK _ _ (Hole _) _) HS (by repeat first | exact .h | apply Spot.t) ?_); (conv => whnf); (refine ⟨?_, ?_⟩); assumption; intro hC) | ((with_reducible refine EvKeep.nq (A := keepK _ _ (Hole _) _) HS (by repeat first | exact .h | apply Spot.t) ?_ ?_); assumption; intro hC) | ((fail_if_success with_reducible refine EvKeep.hole ?_); (with_reducible refine EvKeep.abs (fun X kK => ?_)))) <;> conv => whnf)
  all_goals
    refine ⟨congrArg Value.bool ?_, HS.to_ext⟩
    clear HS
    unfold imok isPc at *
    rw [hd, hc]
    grind
/-- a row made -/
theorem EvNew.row {h0 h : Hp} {L : List Asn} {z : Value} {e : TypeId} {n : Nat} {K : Nat → Hp → Prop} (s : Sep h0 h L) (k : ∀ b h', Sep h0 h' (Sl e (some ⟨b, 0, none⟩) n n (List.replicate n z) :: L) → Ext h h' → K b h') : EvNew h (.cells (mkCells [z] n).toArray e (0, 0)) K :=
  EvNew.sep s (fun b h' s' x => k b h' (by
    rw [mkCells_one] at s'
    exact Sep.row (vs := List.replicate n z) (rest := []) (by rw [List.append_nil]; exact s') (by simp) (by simp)) x)
/-- A machine made of an image. -/
def stm (m : Img) (inp : List Int) : Mac := if imok m = true ∧ inp.length ≤ 10000 then ⟨m.code, m.entry, (List.replicate 32 0).set 2 2097152, m.data, List.replicate m.stack.toNat 0, inp, [], 0, 0, 0⟩ else ⟨[], 0, [], [], [], [], [], 0, 0, 0⟩
def stf (m : Img) (inp : List Int) : Bool := decide (imok m = true ∧ inp.length ≤ 10000)
theorem imok_stack {m : Img} (h : imok m = true) : 0 ≤ m.stack ∧ m.stack ≤ 65536 := by
  unfold imok at h
  simp only [Bool.and_eq_true, decide_eq_true_eq, stackOk] at h
  omega
theorem sImok_v {h : Hp} {x : IH} {m : Img} {t : Bool} (ht : imok m = t) (r : RdI h x m) (b : SmI x) (p0 : -9223372036854775808 ≤ m.entry) (p1 : m.entry ≤ 9223372036854775807) : HC Try.prog 12 [x.v m] h fun v h' => v = .bool t ∧ Ext h h' := ht ▸ sImok_c r b p0 p1
abbrev stmY (m : Img) (inp : List Int) : Mac := ⟨m.code, m.entry, (List.replicate 32 0).set 2 2097152, m.data, List.replicate m.stack.toNat 0, inp, [], 0, 0, 0⟩
theorem stm_yes {m : Img} {inp : List Int} (hm : imok m = true) (hy : inp.length ≤ 10000) : stm m inp = stmY m inp := if_pos ⟨hm, hy⟩
theorem stm_no {m : Img} {inp : List Int} (h : ¬(imok m = true ∧ inp.length ≤ 10000)) : stm m inp = ⟨[], 0, [], [], [], [], [], 0, 0, 0⟩ := if_neg h
theorem stm_rd {h : Hp} {x : IH} {m : Img} {y : Hdr} {inp : List Int} {A B : Option Addr} (r : RdI h x m) (ry : Rd h y.a (ints .u8 inp)) (yl : inp.length = y.n) 
    (hA : Rd h A ((List.replicate (Int.toNat 32) (.int .i64 0)).set (Int.toNat 2 * 1) (.int .i64 2097152))) (hB : Rd h B (List.replicate m.stack.toNat (.int .u8 0))) :
    RdM h ⟨x.c, ⟨A, Int.toNat 32, Int.toNat 32⟩, x.d, ⟨B, m.stack.toNat, m.stack.toNat⟩, y, ⟨none, 0, 0⟩⟩ (stmY m inp) :=
  by exact ⟨r.c, hA, r.d, by rw [ints, List.map_replicate]; exact hB, ry, Rd.nil _ _, r.cl, rfl, r.dl, by simp, yl, rfl⟩
theorem Sep.out0 {h0 h : Hp} {L : List Asn} (s : Sep h0 h L) (m : Mac) (hm : m = ⟨[], 0, [], [], [], [], [], 0, 0, 0⟩) : ∃ z : MH, z.v m = .agg #[.slice none 0 0, .int .i64 0, .slice none 0 0, .slice none 0 0, .slice none 0 0, .slice none 0 0, .slice none 0 0, .int .i64 0, .int .i64 0, .int .i64 0] ∧ Sep h0 h (z.own m) := by
  subst hm
  have s0 := Sep.of_ext s.to_ext
  exact ⟨⟨⟨none, 0, 0⟩, ⟨none, 0, 0⟩, ⟨none, 0, 0⟩, ⟨none, 0, 0⟩, ⟨none, 0, 0⟩, ⟨none, 0, 0⟩⟩, rfl, (((((s0.triv _ _).triv _ _).triv _ _).triv _ _).triv _ _).triv _ _⟩
set_option maxHeartbeats 4000000 in
theorem sStart_yes {h : Hp} {x : IH} {m : Img} {y : Hdr} {inp : List Int} (r : RdI h x m) (b : SmI x) (ry : Rd h y.a (ints .u8 inp)) (yl : inp.length = y.n) (p0 : -9223372036854775808 ≤ m.entry) (p1 : m.entry ≤ 9223372036854775807) (hm : imok m = true) (hy : y.n ≤ 10000) :
    HC Try.prog 21 [x.v m, y.v] h fun v h' => ∃ z : MH, v = .tuple #[z.v (stm m inp), .bool true] ∧ Sep h h' (z.own (stm m inp)) := by
  have hst := imok_stack hm
  have k2 : m.stack.toNat * 1 ≤ 140737488355328 := by omega
  have k3 : m.stack ≤ 9223372036854775807 := by omega
  have hy' : inp.length ≤ 10000 := by omega
  rw [stm_yes hm hy']
  have hsm : ∀ A B : Option Addr, Small ⟨x.c, ⟨A, Int.toNat 32, Int.toNat 32⟩, x.d, ⟨B, m.stack.toNat, m.stack.toNat⟩, y, ⟨none, 0, 0⟩⟩ := fun A B => ⟨b.c, by show Int.toNat 32 ≤ _; decide, b.d, by show m.stack.toNat ≤ _; omega, by show y.n ≤ _; omega, Nat.zero_le _⟩
  refine hc_of Try.func21 (rfl : Try.f21.body = some _) Try.ntmps21 Try.results21 Try.call21 rfl ?_; have HS := Sep.nil h; conv => whnf
  repeat' ((first | ((with_reducible refine EvDraw.ord (id := 3) (.go 0 (.go 1 (.go 2 (.go 3 (.go 5 (.go 6 (.go 7 (.go 8 (.go 10 (.alt 4 (.alt 9 (.go 11 (.alt 12 (.alt 13 .done .stop) .stop)) (.alt 12 (.alt 9 (.go 11 (.alt 13 .done .stop)) .stop) .stop)) (.alt 9 (.alt 4 (.go 11 (.alt 12 (.alt 13 .done .stop) .stop)) (.alt 12 (.alt 4 (.go 11 (.alt 13 .done .stop)) .stop) .stop)) (.alt 12 (.alt 4 (.alt 9 (.go 11 (.alt 13 .done .stop)) .stop) (.alt 9 (.alt 4 (.go 11 (.alt 13 .done .stop)) .stop) .stop)) .stop)))))))))))) fol ?_ ?_ ?_); kernel_rfl; kernel_rfl) | ((with_reducible refine And.intro ?_ ?_)) | ((with_reducible refine EvNew.row HS ?_); intro bN hN HS1 hX; replace HS := HS1; clear HS1) | ((with_reducible refine EvMk.mk hst.1 (Int.le_refl _) k2 k3 ?_)) | ((with_reducible refine EvMk.mk (by decide) (by decide) (by decide) (by decide) ?_)) | ((with_reducible refine EvCall.mk (HC.mono (sImok_v hm (r.ext HS.to_ext) b p0 p1) ?_)); (rintro _ hN ⟨rfl, hX⟩); replace HS := HS.ext hX) | (with_reducible first | refine EvSeq.go ?_ | refine EvIf.tt ?_ | refine EvIf.ff ?_) | ((with_reducible refine Hole.mk (kK ?_)); clear kK) | ((with_reducible refine EvIf.mk (fun c => ?_) (fun c => ?_)) <;> (try simp only [cs_] at c) <;> (try (exfalso; first | omega | (revert c; decide)))) | ((with_reducible refine EvNew.sep HS ?_); intro bN hN HS1 hX; replace HS := HS1; clear HS1) | ((with_reducible refine EvIdx.lit ?_ ?_ ?_); (first | omega | decide); (first | omega | decide)) | ((with_reducible first | refine EvNe.mk ?_ ?_ | refine EvGe.mk ?_ ?_); (first | decide | omega)) | ((with_reducible refine EvLd.q HS (by repeat first | exact .h | apply Spot.t) ?_); (conv => whnf); intro hC) | (with_reducible refine EvLdN.q HS (by repeat first | exact .h | apply Spot.t) (fun hC => ?_)) | ((with_reducible refine EvSt.q HS (by repeat first | exact .h | apply Spot.t) ?_); (conv => whnf); intro hN HS1 hU; replace HS := HS1; clear HS1) | ((with_reducible refine EvKeep.cq (A := keepK _ _ (Hole _) _) HS (by repeat first | exact .h | apply Spot.t) ?_); (conv => whnf); (refine ⟨?_, ?_⟩); assumption; intro hC) | ((with_reducible refine EvKeep.nq (A := keepK _ _ (Hole _) _) HS (by repeat first | exact .h | apply Spot.t) ?_ ?_); assumption; intro hC) | ((fail_if_success with_reducible refine EvKeep.hole ?_); (with_reducible refine EvKeep.abs (fun X kK => ?_)))) <;> conv => whnf)
  all_goals
    first
    | refine EvSt.sli HS 0 rfl rfl (by decide) ?_
    | refine EvSt.sli HS 1 rfl rfl (by decide) ?_
    | refine EvSt.sli HS 2 rfl rfl (by decide) ?_
    | refine EvSt.sli HS 3 rfl rfl (by decide) ?_
    | refine EvSt.sli HS 4 rfl rfl (by decide) ?_
    intro hN HS
    dsimp only [List.set] at HS
    conv => whnf
    repeat' ((first | ((with_reducible refine EvDraw.ord (id := 3) (.go 0 (.go 1 (.go 2 (.go 3 (.go 5 (.go 6 (.go 7 (.go 8 (.go 10 (.alt 4 (.alt 9 (.go 11 (.alt 12 (.alt 13 .done .stop) .stop)) (.alt 12 (.alt 9 (.go 11 (.alt 13 .done .stop)) .stop) .stop)) (.alt 9 (.alt 4 (.go 11 (.alt 12 (.alt 13 .done .stop) .stop)) (.alt 12 (.alt 4 (.go 11 (.alt 13 .done .stop)) .stop) .stop)) (.alt 12 (.alt 4 (.alt 9 (.go 11 (.alt 13 .done .stop)) .stop) (.alt 9 (.alt 4 (.go 11 (.alt 13 .done .stop)) .stop) .stop)) .stop)))))))))))) fol ?_ ?_ ?_); kernel_rfl; kernel_rfl) | (with_reducible first | refine EvSeq.go ?_ | refine EvIf.tt ?_ | refine EvIf.ff ?_) | ((with_reducible refine Hole.mk (kK ?_)); clear kK) | ((with_reducible refine EvIf.mk (fun c => ?_) (fun c => ?_)) <;> (try simp only [cs_] at c) <;> (try (exfalso; first | omega | (revert c; decide)))) | ((with_reducible refine EvNew.sep HS ?_); intro bN hN HS1 hX; replace HS := HS1; clear HS1) | ((with_reducible refine EvIdx.lit ?_ ?_ ?_); (first | omega | decide); (first | omega | decide)) | ((with_reducible first | refine EvNe.mk ?_ ?_ | refine EvGe.mk ?_ ?_); (first | decide | omega)) | ((with_reducible refine EvLd.q HS (by repeat first | exact .h | apply Spot.t) ?_); (conv => whnf); intro hC) | (with_reducible refine EvLdN.q HS (by repeat first | exact .h | apply Spot.t) (fun hC => ?_)) | ((with_reducible refine EvSt.q HS (by repeat first | exact .h | apply Spot.t) ?_); (conv => whnf); intro hN HS1 hU; replace HS := HS1; clear HS1) | ((with_reducible refine EvKeep.cq (A := keepK _ _ (Hole _) _) HS (by repeat first | exact .h | apply Spot.t) ?_); (conv => whnf); (refine ⟨?_, ?_⟩); assumption; intro hC) | ((with_reducible refine EvKeep.nq (A := keepK _ _ (Hole _) _) HS (by repeat first | exact .h | apply Spot.t) ?_ ?_); assumption; intro hC) | ((fail_if_success with_reducible refine EvKeep.hole ?_); (with_reducible refine EvKeep.abs (fun X kK => ?_)))) <;> conv => whnf)
    refine EvCall.mk ((l3Copy_c (stm_rd (r.ext HS.to_ext) (ry.ext HS.to_ext) yl (by first | exact HS.rd 0 rfl | exact HS.rd 1 rfl | exact HS.rd 2 rfl | exact HS.rd 3 rfl | exact HS.rd 4 rfl) (by first | exact HS.rd 0 rfl | exact HS.rd 1 rfl | exact HS.rd 2 rfl | exact HS.rd 3 rfl | exact HS.rd 4 rfl)) (hsm _ _)).mono ?_)
    rintro _ hN ⟨z, rfl, HS1⟩
    replace HS := Sep.fold (z.own (stmY m inp)) (HS.join6 HS1)
    clear HS1
    conv => whnf
    repeat' ((first | ((with_reducible refine EvDraw.ord (id := 3) (.go 0 (.go 1 (.go 2 (.go 3 (.go 5 (.go 6 (.go 7 (.go 8 (.go 10 (.alt 4 (.alt 9 (.go 11 (.alt 12 (.alt 13 .done .stop) .stop)) (.alt 12 (.alt 9 (.go 11 (.alt 13 .done .stop)) .stop) .stop)) (.alt 9 (.alt 4 (.go 11 (.alt 12 (.alt 13 .done .stop) .stop)) (.alt 12 (.alt 4 (.go 11 (.alt 13 .done .stop)) .stop) .stop)) (.alt 12 (.alt 4 (.alt 9 (.go 11 (.alt 13 .done .stop)) .stop) (.alt 9 (.alt 4 (.go 11 (.alt 13 .done .stop)) .stop) .stop)) .stop)))))))))))) fol ?_ ?_ ?_); kernel_rfl; kernel_rfl) | (with_reducible first | refine EvSeq.go ?_ | refine EvIf.tt ?_ | refine EvIf.ff ?_) | ((with_reducible refine Hole.mk (kK ?_)); clear kK) | ((with_reducible refine EvIf.mk (fun c => ?_) (fun c => ?_)) <;> (try simp only [cs_] at c) <;> (try (exfalso; first | omega | (revert c; decide)))) | ((with_reducible refine EvNew.sep HS ?_); intro bN hN HS1 hX; replace HS := HS1; clear HS1) | ((with_reducible refine EvIdx.lit ?_ ?_ ?_); (first | omega | decide); (first | omega | decide)) | ((with_reducible first | refine EvNe.mk ?_ ?_ | refine EvGe.mk ?_ ?_); (first | decide | omega)) | ((with_reducible refine EvLd.q HS (by repeat first | exact .h | apply Spot.t) ?_); (conv => whnf); intro hC) | (with_reducible refine EvLdN.q HS (by repeat first | exact .h | apply Spot.t) (fun hC => ?_)) | ((with_reducible refine EvSt.q HS (by repeat first | exact .h | apply Spot.t) ?_); (conv => whnf); intro hN HS1 hU; replace HS := HS1; clear HS1) | ((with_reducible refine EvKeep.cq (A := keepK _ _ (Hole _) _) HS (by repeat first | exact .h | apply Spot.t) ?_); (conv => whnf); (refine ⟨?_, ?_⟩); assumption; intro hC) | ((with_reducible refine EvKeep.nq (A := keepK _ _ (Hole _) _) HS (by repeat first | exact .h | apply Spot.t) ?_ ?_); assumption; intro hC) | ((fail_if_success with_reducible refine EvKeep.hole ?_); (with_reducible refine EvKeep.abs (fun X kK => ?_)))) <;> conv => whnf)
    exact ⟨z, rfl, (HS.take [_]).unfold⟩
theorem sStart_no {h : Hp} {x : IH} {m : Img} {y : Hdr} {inp : List Int} (r : RdI h x m) (b : SmI x) (yl : inp.length = y.n) (p0 : -9223372036854775808 ≤ m.entry) (p1 : m.entry ≤ 9223372036854775807) (hn : ¬(imok m = true ∧ inp.length ≤ 10000)) :
    HC Try.prog 21 [x.v m, y.v] h fun v h' => ∃ z : MH, v = .tuple #[z.v (stm m inp), .bool false] ∧ Sep h h' (z.own (stm m inp)) := by
  have hy : imok m = true → ¬ (y.n : Int) ≤ 10000 := fun hm hy => hn ⟨hm, by omega⟩
  rw [stm_no hn]
  refine hc_of Try.func21 (rfl : Try.f21.body = some _) Try.ntmps21 Try.results21 Try.call21 rfl ?_; have HS := Sep.nil h; conv => whnf
  repeat' ((first | ((with_reducible refine EvDraw.ord (id := 3) (.go 0 (.go 1 (.go 2 (.go 3 (.go 5 (.go 6 (.go 7 (.go 8 (.go 10 (.alt 4 (.alt 9 (.go 11 (.alt 12 (.alt 13 .done .stop) .stop)) (.alt 12 (.alt 9 (.go 11 (.alt 13 .done .stop)) .stop) .stop)) (.alt 9 (.alt 4 (.go 11 (.alt 12 (.alt 13 .done .stop) .stop)) (.alt 12 (.alt 4 (.go 11 (.alt 13 .done .stop)) .stop) .stop)) (.alt 12 (.alt 4 (.alt 9 (.go 11 (.alt 13 .done .stop)) .stop) (.alt 9 (.alt 4 (.go 11 (.alt 13 .done .stop)) .stop) .stop)) .stop)))))))))))) fol ?_ ?_ ?_); kernel_rfl; kernel_rfl) | ((with_reducible refine EvCall.mk (HC.mono (sImok_c (r.ext HS.to_ext) b p0 p1) ?_)); (rintro _ hN ⟨rfl, hX⟩); replace HS := HS.ext hX) | (with_reducible first | refine EvSeq.go ?_ | refine EvIf.tt ?_ | refine EvIf.ff ?_) | ((with_reducible refine Hole.mk (kK ?_)); clear kK) | ((with_reducible refine EvIf.mk (fun c => ?_) (fun c => ?_)) <;> (try simp only [cs_] at c) <;> (try (exfalso; first | omega | (revert c; decide)))) | ((with_reducible refine EvNew.sep HS ?_); intro bN hN HS1 hX; replace HS := HS1; clear HS1) | ((with_reducible refine EvIdx.lit ?_ ?_ ?_); (first | omega | decide); (first | omega | decide)) | ((with_reducible first | refine EvNe.mk ?_ ?_ | refine EvGe.mk ?_ ?_); (first | decide | omega)) | ((with_reducible refine EvLd.q HS (by repeat first | exact .h | apply Spot.t) ?_); (conv => whnf); intro hC) | (with_reducible refine EvLdN.q HS (by repeat first | exact .h | apply Spot.t) (fun hC => ?_)) | ((with_reducible refine EvSt.q HS (by repeat first | exact .h | apply Spot.t) ?_); (conv => whnf); intro hN HS1 hU; replace HS := HS1; clear HS1) | ((with_reducible refine EvKeep.cq (A := keepK _ _ (Hole _) _) HS (by repeat first | exact .h | apply Spot.t) ?_); (conv => whnf); (refine ⟨?_, ?_⟩); assumption; intro hC) | ((with_reducible refine EvKeep.nq (A := keepK _ _ (Hole _) _) HS (by repeat first | exact .h | apply Spot.t) ?_ ?_); assumption; intro hC) | ((fail_if_success with_reducible refine EvKeep.hole ?_); (with_reducible refine EvKeep.abs (fun X kK => ?_)))) <;> conv => whnf)
  all_goals
    first
    | (exfalso; exact hy ‹_› (by omega))
    | (obtain ⟨z, e, s⟩ := HS.out0 _ rfl
       exact ⟨z, congrArg (fun v => Value.tuple #[v, .bool false]) e.symm, s⟩)
theorem sStart_c {h : Hp} {x : IH} {m : Img} {y : Hdr} {inp : List Int} (r : RdI h x m) (b : SmI x) (ry : Rd h y.a (ints .u8 inp)) (yl : inp.length = y.n) (p0 : -9223372036854775808 ≤ m.entry) (p1 : m.entry ≤ 9223372036854775807) :
    HC Try.prog 21 [x.v m, y.v] h fun v h' => ∃ z : MH, v = .tuple #[z.v (stm m inp), .bool (stf m inp)] ∧ Sep h h' (z.own (stm m inp)) := by
  unfold stf
  by_cases hc : imok m = true ∧ inp.length ≤ 10000
  · rw [decide_eq_true hc]
    exact sStart_yes r b ry yl p0 p1 hc.1 (by omega)
  · rw [decide_eq_false hc]
    exact sStart_no r b yl p0 p1 hc
end Go.Proofs.Ythndggachjdkfaa
