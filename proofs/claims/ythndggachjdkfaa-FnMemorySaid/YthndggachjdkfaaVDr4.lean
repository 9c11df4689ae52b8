/- Draws: an image. -/
import Derived.Test.YthndggachjdkfaaVDr3
import Derived.Test.YthndggachjdkfaaVImgS
namespace Go.Proofs.Ythndggachjdkfaa
open Go.RowKit
set_option maxRecDepth 20000
set_option linter.unusedSimpArgs false
set_option linter.unusedVariables false
/-- bytes, drawn one after the other -/
def dbs (l : List Int) (q : Nat) (n : Nat) : List Int := (List.range n).map fun i => IntKind.u8.wrap (bt l (q + i))
theorem dbs_len (l : List Int) (q n : Nat) : (dbs l q n).length = n := by simp [dbs]
theorem dbs_succ (l : List Int) (q n : Nat) : dbs l q (n + 1) = dbs l q n ++ [IntKind.u8.wrap (bt l (q + n))] := by simp [dbs, List.range_succ]
theorem u8w_r (x : Int) : 0 ≤ IntKind.u8.wrap x ∧ IntKind.u8.wrap x ≤ 255 := by
  have h : IntKind.u8.wrap x = x % 256 := by
    unfold IntKind.wrap
    simp [IntKind.bits, IntKind.signed]
  omega
theorem dbs_byt (l : List Int) (q n : Nat) : Byt (dbs l q n) := fun x hx => by
  obtain ⟨i, _, rfl⟩ := List.mem_map.mp hx
  exact u8w_r _
abbrev dm (k : Int) : Nat := (k / 4 % 3 * 4).toNat
def imspoil (k : Int) (m : Img) : Img :=
  if 236 ≤ k then (if Int.tmod k 7 = 0 then { m with entry := IntKind.i64.wrap (65536 + IntKind.i64.wrap (IntKind.i64.wrap (4 * m.code.length) - IntKind.i64.wrap (IntKind.i64.wrap (Int.tdiv k 250) * 4))) }
    else if Int.tmod k 7 = 1 then { m with entry := IntKind.i64.wrap (65536 + 2) }
    else if Int.tmod k 7 = 2 then { m with stack := [8, -16, 65536, 65552].getD (Int.tmod (IntKind.i64.wrap (Int.tdiv k 7)) 4).toNat 0 }
    else if Int.tmod k 7 = 3 then { m with data := List.replicate (IntKind.i64.wrap (65536 + Int.tmod k 2)).toNat 0 }
    else if Int.tmod k 7 = 4 then { m with code := List.replicate (IntKind.i64.wrap (16384 + Int.tmod k 2)).toNat 0 }
    else if Int.tmod k 7 = 5 then { m with code := m.code ++ [[-1, 4294967296, 4294967295].getD (Int.tmod (IntKind.i64.wrap (Int.tdiv k 7)) 3).toNat 0] }
    else { m with code := [] }) else m
def dimg (l : List Int) (q : Nat) : Img × Nat :=
  let k := bt l q
  let W := dwords l (q + 2) (dwn l (q + 1))
  (imspoil k ⟨W.1, dbs l W.2 (dm k), 65536, IntKind.i64.wrap (16 * IntKind.i64.wrap (1 + Int.tmod k 3))⟩, W.2 + dm k)
theorem Sep.drop {h0 h : Hp} {L : List Asn} (s : Sep h0 h L) (i : Nat) {A : Asn} (hi : L[i]? = some A) : Sep h0 h (L.eraseIdx i) := (s.front i hi).tail
theorem add0 (C : Option Addr) : (C.map fun x => x.add (((0 : Nat) : Int).toNat * 1)) = C := by cases C <;> rfl
theorem Sep.empty {h0 h : Hp} {L : List Asn} {T : TypeId} {A : Option Addr} {n c : Nat} {vs : List Value} (s : Sep h0 h (Sl T A n c vs :: L)) : Sep h0 h (Sl T A 0 c [] :: L) :=
  s.weaken fun S ⟨a, b, d⟩ => ⟨rfl, Nat.zero_le _, d.imp id fun ⟨bl, pre, rest, e1, e2, e3, e4⟩ => ⟨bl, pre, vs ++ rest, e1, e2, e3, by simpa using e4⟩⟩
set_option maxHeartbeats 4000000 in
theorem image_e {h0 h : Hp} {L : List Asn} {b q : Nat} {A : Option Addr} {l : List Int} (HS : Sep h0 h (RQ b A l.length q :: L)) (r : RdB h0 A l) :
    HC Try.prog 115 [.pointer (some ⟨b, 0, none⟩)] h fun v h' => ∃ x : IH, v = x.v (dimg l q).1 ∧ Sep h0 h' (x.own (dimg l q).1 ++ (RQ b A l.length (dimg l q).2 :: L)) := by
  have hk := bt_r r.by_ q
  have hk1 := bt_r r.by_ (q + 1)
  refine hc_of Try.func115 (rfl : Try.f115.body = some _) Try.ntmps115 Try.results115 Try.call115 rfl ?_; conv => whnf
  refine EvNew.sep HS ?_
  intro b0 gb0 HS1 xb0
  replace HS := HS1
  clear HS1
  conv => whnf
  repeat' ((first | ((with_reducible refine EvDraw.ord (id := 6) (.go 0 (.go 1 (.go 2 (.alt 3 (.go 4 (.alt 5 (.alt 6 (.go 7 (.alt 8 .done .stop)) .stop) .stop)) .stop)))) fol ?_ ?_ ?_); kernel_rfl; kernel_rfl) | ((with_reducible refine EvDraw.ord (id := 20) (.go 0 (.go 1 (.go 3 (.go 4 (.go 5 (.alt 2 (.go 6 (.go 7 (.alt 8 (.alt 9 (.go 10 (.alt 11 .done .stop)) .stop) .stop))) .stop)))))) fol ?_ ?_ ?_); kernel_rfl; kernel_rfl) | ((with_reducible refine EvCall.mk (HC.mono (next_e HS (by repeat first | exact .h | apply Spot.t) r) ?_)); rintro _ hN ⟨rfl, k0, k1, HS1⟩; replace HS := HS1; clear HS1) | (with_reducible first | refine EvSeq.go ?_ | refine EvIf.tt ?_ | refine EvIf.ff ?_) | ((with_reducible refine Hole.mk (kK ?_)); clear kK) | ((with_reducible refine EvIf.mk (fun c => ?_) (fun c => ?_)) <;> (try simp only [cs_] at c) <;> (try (exfalso; first | omega | (revert c; decide)))) | ((with_reducible refine EvNew.sep HS ?_); intro bN hN HS1 hX; replace HS := HS1; clear HS1) | ((with_reducible refine EvIdx.lit ?_ ?_ ?_); (first | omega | decide); (first | omega | decide)) | ((with_reducible first | refine EvNe.mk ?_ ?_ | refine EvGe.mk ?_ ?_); (first | decide | omega)) | ((with_reducible refine EvLd.q HS (by repeat first | exact .h | apply Spot.t) ?_); (conv => whnf); intro hC) | (with_reducible refine EvLdN.q HS (by repeat first | exact .h | apply Spot.t) (fun hC => ?_)) | ((with_reducible refine EvSt.q HS (by repeat first | exact .h | apply Spot.t) ?_); (conv => whnf); intro hN HS1 hU; replace HS := HS1; clear HS1) | ((with_reducible refine EvKeep.cq (A := keepK _ _ (Hole _) _) HS (by repeat first | exact .h | apply Spot.t) ?_); (conv => whnf); (refine ⟨?_, ?_⟩); assumption; intro hC) | ((with_reducible refine EvKeep.nq (A := keepK _ _ (Hole _) _) HS (by repeat first | exact .h | apply Spot.t) ?_ ?_); assumption; intro hC) | ((fail_if_success with_reducible refine EvKeep.hole ?_); (with_reducible refine EvKeep.abs (fun X kK => ?_)))) <;> conv => whnf)
  refine EvCall.mk ((words_e (HS.front 1 rfl) r).mono ?_)
  rintro _ hN ⟨C, cc, rfl, HS1⟩
  replace HS := HS1
  clear HS1
  dsimp only [List.eraseIdx] at HS
  have hdw : (dwn l (q + 1) : Int) = 1 + bt l (q + 1) % 12 := by
    show (((1 + bt l (q + 1) % 12).toNat : Nat) : Int) = _
    omega
  have hWl := dwords_len l (q + 2) (dwn l (q + 1))
  unfold dimg
  dsimp only
  generalize dwords l (q + 2) (dwn l (q + 1)) = W at *
  generalize dwn l (q + 1) = nW at *
  conv => whnf
  refine EvNew.sep HS ?_
  intro b1 gb1 HS1 xb1
  replace HS := HS1
  clear HS1
  conv => whnf
  refine EvNe.mk (by decide) ?_
  conv => whnf
  refine EvNew.sep HS ?_
  intro b2 gb2 HS1 xb2
  replace HS := HS1
  clear HS1
  conv => whnf
  generalize IntKind.i64.wrap (16 * IntKind.i64.wrap (1 + Int.tmod (bt l q) 3)) = sk at *
  repeat' ((first | (with_reducible first | refine EvSeq.go ?_ | refine EvIf.tt ?_ | refine EvIf.ff ?_) | ((with_reducible refine Hole.mk (kK ?_)); clear kK) | ((with_reducible refine EvIf.mk (fun c => ?_) (fun c => ?_)) <;> (try simp only [cs_] at c) <;> (try (exfalso; first | omega | (revert c; decide)))) | ((with_reducible refine EvNew.sep HS ?_); intro bN hN HS1 hX; replace HS := HS1; clear HS1) | ((with_reducible refine EvIdx.lit ?_ ?_ ?_); (first | omega | decide); (first | omega | decide)) | ((with_reducible first | refine EvNe.mk ?_ ?_ | refine EvGe.mk ?_ ?_); (first | decide | omega)) | ((with_reducible refine EvLd.q HS (by repeat first | exact .h | apply Spot.t) ?_); (conv => whnf); intro hC) | (with_reducible refine EvLdN.q HS (by repeat first | exact .h | apply Spot.t) (fun hC => ?_)) | ((with_reducible refine EvSt.q HS (by repeat first | exact .h | apply Spot.t) ?_); (conv => whnf); intro hN HS1 hU; replace HS := HS1; clear HS1) | ((with_reducible refine EvKeep.cq (A := keepK _ _ (Hole _) _) HS (by repeat first | exact .h | apply Spot.t) ?_); (conv => whnf); (refine ⟨?_, ?_⟩); assumption; intro hC) | ((with_reducible refine EvKeep.nq (A := keepK _ _ (Hole _) _) HS (by repeat first | exact .h | apply Spot.t) ?_ ?_); assumption; intro hC) | ((fail_if_success with_reducible refine EvKeep.hole ?_); (with_reducible refine EvKeep.abs (fun X kK => ?_)))) <;> conv => whnf)
  have e0 : IntKind.i64.wrap (Int.tmod (IntKind.i64.wrap (Int.tdiv (bt l q) 4)) 3 * 4) = (dm (bt l q) : Int) := by
    show _ = (((bt l q / 4 % 3 * 4).toNat : Nat) : Int)
    simp (disch := omega) only [tdiv_pos, tmod_pos, i64w]
    omega
  have hdm : dm (bt l q) ≤ 8 := by
    show (bt l q / 4 % 3 * 4).toNat ≤ 8
    omega
  generalize dm (bt l q) = nD at *
  refine EvLoop.keep ([5, 17, 18, 19, 20, 21, 22, 23, 24, 25, 26, 27, 28, 29, 30, 31, 32], 7) (α := Nat × Option Addr × Nat) (fun x => [(5, .int .i64 (x.1 : Int))]) (fun x h' => x.1 ≤ nD ∧ Sep h0 h' (Sl 5 x.2.1 x.1 x.2.2 (ints .u8 (dbs l W.2 x.1)) :: Bx b2 [.slice C nW cc, .slice x.2.1 x.1 x.2.2, .int .i64 65536, .int .i64 sk] 28 :: Sl 3 C nW cc (ints .i64 W.1) :: RQ b A l.length (W.2 + x.1) :: Bx b0 [.slice none 0 0, .slice none 0 0, .int .i64 0, .int .i64 0] 28 :: L)) (fun x => nD - x.1) (0, some ⟨b1, 0, none⟩, 0) (by (repeat' (first | exact trivial | refine ⟨rfl, ?_⟩))) ⟨Nat.zero_le _, ((HS.front 1 rfl).tail).triv _ _⟩ ?_
  clear HS
  rintro ⟨k, B, cB⟩ g ⟨hkn, HS⟩
  dsimp only at hkn HS
  conv => whnf
  refine EvSeq.go ?_
  conv => whnf
  repeat' ((first | (with_reducible first | refine EvIf.tt ?_ | refine EvIf.ff ?_) | ((with_reducible refine Hole.mk (kK ?_)); clear kK) | ((with_reducible refine EvIf.mk (fun c => ?_) (fun c => ?_)) <;> (try simp only [cs_] at c) <;> (try (exfalso; first | omega | (revert c; decide)))) | ((with_reducible refine EvNew.sep HS ?_); intro bN hN HS1 hX; replace HS := HS1; clear HS1) | ((with_reducible refine EvIdx.lit ?_ ?_ ?_); (first | omega | decide); (first | omega | decide)) | ((with_reducible first | refine EvNe.mk ?_ ?_ | refine EvGe.mk ?_ ?_); (first | decide | omega)) | ((with_reducible refine EvLd.q HS (by repeat first | exact .h | apply Spot.t) ?_); (conv => whnf); intro hC) | (with_reducible refine EvLdN.q HS (by repeat first | exact .h | apply Spot.t) (fun hC => ?_)) | ((with_reducible refine EvSt.q HS (by repeat first | exact .h | apply Spot.t) ?_); (conv => whnf); intro hN HS1 hU; replace HS := HS1; clear HS1) | ((with_reducible refine EvKeep.cq (A := keepK _ _ (Hole _) _) HS (by repeat first | exact .h | apply Spot.t) ?_); (conv => whnf); (refine ⟨?_, ?_⟩); assumption; intro hC) | ((with_reducible refine EvKeep.nq (A := keepK _ _ (Hole _) _) HS (by repeat first | exact .h | apply Spot.t) ?_ ?_); assumption; intro hC) | ((fail_if_success with_reducible refine EvKeep.hole ?_); (with_reducible refine EvKeep.abs (fun X kK => ?_)))) <;> conv => whnf)
  case refine_2.refine_1 =>
    repeat' ((first | ((with_reducible refine EvDraw.ord (id := 6) (.go 0 (.go 1 (.go 2 (.alt 3 (.go 4 (.alt 5 (.alt 6 (.go 7 (.alt 8 .done .stop)) .stop) .stop)) .stop)))) fol ?_ ?_ ?_); kernel_rfl; kernel_rfl) | ((with_reducible refine EvDraw.ord (id := 20) (.go 0 (.go 1 (.go 3 (.go 4 (.go 5 (.alt 2 (.go 6 (.go 7 (.alt 8 (.alt 9 (.go 10 (.alt 11 .done .stop)) .stop) .stop))) .stop)))))) fol ?_ ?_ ?_); kernel_rfl; kernel_rfl) | ((with_reducible refine EvCall.mk (HC.mono (next_e HS (by repeat first | exact .h | apply Spot.t) r) ?_)); rintro _ hN ⟨rfl, k0, k1, HS1⟩; replace HS := HS1; clear HS1) | ((with_reducible refine And.intro ?_ ?_)) | (with_reducible first | refine EvSeq.go ?_ | refine EvIf.tt ?_ | refine EvIf.ff ?_) | ((with_reducible refine Hole.mk (kK ?_)); clear kK) | ((with_reducible refine EvIf.mk (fun c => ?_) (fun c => ?_)) <;> (try simp only [cs_] at c) <;> (try (exfalso; first | omega | (revert c; decide)))) | ((with_reducible refine EvNew.sep HS ?_); intro bN hN HS1 hX; replace HS := HS1; clear HS1) | ((with_reducible refine EvIdx.lit ?_ ?_ ?_); (first | omega | decide); (first | omega | decide)) | ((with_reducible first | refine EvNe.mk ?_ ?_ | refine EvGe.mk ?_ ?_); (first | decide | omega)) | ((with_reducible refine EvLd.q HS (by repeat first | exact .h | apply Spot.t) ?_); (conv => whnf); intro hC) | (with_reducible refine EvLdN.q HS (by repeat first | exact .h | apply Spot.t) (fun hC => ?_)) | ((with_reducible refine EvSt.q HS (by repeat first | exact .h | apply Spot.t) ?_); (conv => whnf); intro hN HS1 hU; replace HS := HS1; clear HS1) | ((with_reducible refine EvKeep.cq (A := keepK _ _ (Hole _) _) HS (by repeat first | exact .h | apply Spot.t) ?_); (conv => whnf); (refine ⟨?_, ?_⟩); assumption; intro hC) | ((with_reducible refine EvKeep.nq (A := keepK _ _ (Hole _) _) HS (by repeat first | exact .h | apply Spot.t) ?_ ?_); assumption; intro hC) | ((fail_if_success with_reducible refine EvKeep.hole ?_); (with_reducible refine EvKeep.abs (fun X kK => ?_)))) <;> conv => whnf)
    refine EvApp.sli HS 1 rfl (Rd.of_blk (HS.pt_i 0 rfl)) rfl (by simp [Value.oneCell']) (by omega) (by omega) ?_
    intro A' c2 h2 HS
    dsimp only [List.eraseIdx] at HS
    conv => whnf
    repeat' ((first | ((with_reducible refine EvDraw.ord (id := 6) (.go 0 (.go 1 (.go 2 (.alt 3 (.go 4 (.alt 5 (.alt 6 (.go 7 (.alt 8 .done .stop)) .stop) .stop)) .stop)))) fol ?_ ?_ ?_); kernel_rfl; kernel_rfl) | ((with_reducible refine EvDraw.ord (id := 20) (.go 0 (.go 1 (.go 3 (.go 4 (.go 5 (.alt 2 (.go 6 (.go 7 (.alt 8 (.alt 9 (.go 10 (.alt 11 .done .stop)) .stop) .stop))) .stop)))))) fol ?_ ?_ ?_); kernel_rfl; kernel_rfl) | (with_reducible first | refine EvSeq.go ?_ | refine EvIf.tt ?_ | refine EvIf.ff ?_) | ((with_reducible refine Hole.mk (kK ?_)); clear kK) | ((with_reducible refine EvIf.mk (fun c => ?_) (fun c => ?_)) <;> (try simp only [cs_] at c) <;> (try (exfalso; first | omega | (revert c; decide)))) | ((with_reducible refine EvNew.sep HS ?_); intro bN hN HS1 hX; replace HS := HS1; clear HS1) | ((with_reducible refine EvIdx.lit ?_ ?_ ?_); (first | omega | decide); (first | omega | decide)) | ((with_reducible first | refine EvNe.mk ?_ ?_ | refine EvGe.mk ?_ ?_); (first | decide | omega)) | ((with_reducible refine EvLd.q HS (by repeat first | exact .h | apply Spot.t) ?_); (conv => whnf); intro hC) | (with_reducible refine EvLdN.q HS (by repeat first | exact .h | apply Spot.t) (fun hC => ?_)) | ((with_reducible refine EvSt.q HS (by repeat first | exact .h | apply Spot.t) ?_); (conv => whnf); intro hN HS1 hU; replace HS := HS1; clear HS1) | ((with_reducible refine EvKeep.cq (A := keepK _ _ (Hole _) _) HS (by repeat first | exact .h | apply Spot.t) ?_); (conv => whnf); (refine ⟨?_, ?_⟩); assumption; intro hC) | ((with_reducible refine EvKeep.nq (A := keepK _ _ (Hole _) _) HS (by repeat first | exact .h | apply Spot.t) ?_ ?_); assumption; intro hC) | ((fail_if_success with_reducible refine EvKeep.hole ?_); (with_reducible refine EvKeep.abs (fun X kK => ?_)))) <;> conv => whnf)
    refine ⟨(k + 1, A', c2), ⟨congrArg (fun z => some (Value.int .i64 z)) ((i64w _ (by dsimp only; omega) (by dsimp only; omega)).trans (by dsimp only; omega)), (by (repeat' (first | exact trivial | refine ⟨rfl, ?_⟩)))⟩, ⟨by dsimp only; omega, ?_⟩, by dsimp only; omega⟩
    have HS := HS.drop 1 rfl
    have e1 : ints .u8 (dbs l W.2 (k + 1)) = ints .u8 (dbs l W.2 k) ++ [.int .u8 (IntKind.u8.wrap (bt l (W.2 + k)))] := by
      rw [dbs_succ]
      simp
    dsimp only
    rw [e1]
    exact HS
  case refine_2.refine_2 =>
    obtain rfl : k = nD := by omega
    repeat' ((first | ((with_reducible refine EvDraw.ord (id := 6) (.go 0 (.go 1 (.go 2 (.alt 3 (.go 4 (.alt 5 (.alt 6 (.go 7 (.alt 8 .done .stop)) .stop) .stop)) .stop)))) fol ?_ ?_ ?_); kernel_rfl; kernel_rfl) | ((with_reducible refine EvDraw.ord (id := 20) (.go 0 (.go 1 (.go 3 (.go 4 (.go 5 (.alt 2 (.go 6 (.go 7 (.alt 8 (.alt 9 (.go 10 (.alt 11 .done .stop)) .stop) .stop))) .stop)))))) fol ?_ ?_ ?_); kernel_rfl; kernel_rfl) | ((with_reducible refine EvIdx.lit ?_ ?_ ?_); (simp (disch := omega) only [tdiv_pos, tmod_pos, i64w]; omega); (simp (disch := omega) only [tdiv_pos, tmod_pos, i64w]; omega)) | ((with_reducible refine EvLd.lit HS (by repeat first | exact .h | apply Spot.t) (by repeat first | exact .nil | apply AllI.cons) (by simp (disch := omega) only [tdiv_pos, tmod_pos, i64w, List.length_cons, List.length_nil]; omega) (fun hC => ?_))) | ((with_reducible refine EvMk.mk ?_ ?_ ?_ ?_ ?_); (simp (disch := omega) only [tdiv_pos, tmod_pos, i64w]; omega); omega; (simp (disch := omega) only [tdiv_pos, tmod_pos, i64w]; omega); (simp (disch := omega) only [tdiv_pos, tmod_pos, i64w]; omega)) | ((with_reducible refine EvNew.row HS ?_); intro bN hN HS1 hX; replace HS := HS1; clear HS1) | ((with_reducible refine EvCut.mk ?_ ?_ ?_ ?_ ?_); omega; omega; omega; omega) | (with_reducible first | refine EvSeq.go ?_ | refine EvIf.tt ?_ | refine EvIf.ff ?_) | ((with_reducible refine Hole.mk (kK ?_)); clear kK) | ((with_reducible refine EvIf.mk (fun c => ?_) (fun c => ?_)) <;> (try simp only [cs_] at c) <;> (try (exfalso; first | omega | (revert c; decide)))) | ((with_reducible refine EvNew.sep HS ?_); intro bN hN HS1 hX; replace HS := HS1; clear HS1) | ((with_reducible refine EvIdx.lit ?_ ?_ ?_); (first | omega | decide); (first | omega | decide)) | ((with_reducible first | refine EvNe.mk ?_ ?_ | refine EvGe.mk ?_ ?_); (first | decide | omega)) | ((with_reducible refine EvLd.q HS (by repeat first | exact .h | apply Spot.t) ?_); (conv => whnf); intro hC) | (with_reducible refine EvLdN.q HS (by repeat first | exact .h | apply Spot.t) (fun hC => ?_)) | ((with_reducible refine EvSt.q HS (by repeat first | exact .h | apply Spot.t) ?_); (conv => whnf); intro hN HS1 hU; replace HS := HS1; clear HS1) | ((with_reducible refine EvKeep.cq (A := keepK _ _ (Hole _) _) HS (by repeat first | exact .h | apply Spot.t) ?_); (conv => whnf); (refine ⟨?_, ?_⟩); assumption; intro hC) | ((with_reducible refine EvKeep.nq (A := keepK _ _ (Hole _) _) HS (by repeat first | exact .h | apply Spot.t) ?_ ?_); assumption; intro hC) | ((fail_if_success with_reducible refine EvKeep.hole ?_); (with_reducible refine EvKeep.abs (fun X kK => ?_)))) <;> conv => whnf)
    case refine_1.refine_2.refine_1.refine_2 =>
      unfold imspoil
      rw [if_pos (by assumption), if_pos (by assumption)]
      exact ⟨⟨⟨C, nW, cc⟩, ⟨B, k, cB⟩⟩, by
        dsimp only [IH.v]
        rw [hWl], (HS.drop 1 rfl).drop 3 rfl⟩
    case refine_1.refine_2.refine_2.refine_1 =>
      unfold imspoil
      rw [if_pos (by assumption), if_neg (by assumption), if_pos (by assumption)]
      exact ⟨⟨⟨C, nW, cc⟩, ⟨B, k, cB⟩⟩, rfl, (HS.drop 1 rfl).drop 3 rfl⟩
    case refine_1.refine_2.refine_2.refine_2.refine_1.refine_2.refine_2.refine_3 =>
      unfold imspoil
      rw [if_pos (by assumption), if_neg (by assumption), if_neg (by assumption), if_pos (by assumption)]
      exact ⟨⟨⟨C, nW, cc⟩, ⟨B, k, cB⟩⟩, rfl, (HS.tail.drop 1 rfl).drop 3 rfl⟩
    case refine_1.refine_2.refine_2.refine_2.refine_2.refine_1.refine_2.refine_5 =>
      unfold imspoil
      rw [if_pos (by assumption), if_neg (by assumption), if_neg (by assumption), if_neg (by assumption), if_pos (by assumption)]
      have HS := ((HS.drop 1 rfl).drop 1 rfl).drop 3 rfl
      rw [← List.map_replicate] at HS
      exact ⟨⟨⟨C, nW, cc⟩, ⟨_, _, _⟩⟩, rfl, HS⟩
    case refine_1.refine_2.refine_2.refine_2.refine_2.refine_2.refine_1.refine_2.refine_5 =>
      unfold imspoil
      rw [if_pos (by assumption), if_neg (by assumption), if_neg (by assumption), if_neg (by assumption), if_neg (by assumption), if_pos (by assumption)]
      have HS := (((HS.front 1 rfl).drop 2 rfl).drop 2 rfl).drop 3 rfl
      rw [← List.map_replicate] at HS
      exact ⟨⟨⟨_, _, _⟩, ⟨B, k, cB⟩⟩, rfl, HS⟩
    case refine_1.refine_2.refine_2.refine_2.refine_2.refine_2.refine_2.refine_1.refine_3.refine_2.refine_2.refine_2.refine_3.refine_2 =>
      refine EvApp.sli HS 4 rfl (Rd.of_blk (HS.pt_i 0 rfl)) rfl (by simp [Value.oneCell']) (by omega) (by omega) ?_
      intro A' c2 h2 HS
      dsimp only [List.eraseIdx] at HS
      conv => whnf
      repeat' ((first | ((with_reducible refine EvDraw.ord (id := 6) (.go 0 (.go 1 (.go 2 (.alt 3 (.go 4 (.alt 5 (.alt 6 (.go 7 (.alt 8 .done .stop)) .stop) .stop)) .stop)))) fol ?_ ?_ ?_); kernel_rfl; kernel_rfl) | ((with_reducible refine EvDraw.ord (id := 20) (.go 0 (.go 1 (.go 3 (.go 4 (.go 5 (.alt 2 (.go 6 (.go 7 (.alt 8 (.alt 9 (.go 10 (.alt 11 .done .stop)) .stop) .stop))) .stop)))))) fol ?_ ?_ ?_); kernel_rfl; kernel_rfl) | (with_reducible first | refine EvSeq.go ?_ | refine EvIf.tt ?_ | refine EvIf.ff ?_) | ((with_reducible refine Hole.mk (kK ?_)); clear kK) | ((with_reducible refine EvIf.mk (fun c => ?_) (fun c => ?_)) <;> (try simp only [cs_] at c) <;> (try (exfalso; first | omega | (revert c; decide)))) | ((with_reducible refine EvNew.sep HS ?_); intro bN hN HS1 hX; replace HS := HS1; clear HS1) | ((with_reducible refine EvIdx.lit ?_ ?_ ?_); (first | omega | decide); (first | omega | decide)) | ((with_reducible first | refine EvNe.mk ?_ ?_ | refine EvGe.mk ?_ ?_); (first | decide | omega)) | ((with_reducible refine EvLd.q HS (by repeat first | exact .h | apply Spot.t) ?_); (conv => whnf); intro hC) | (with_reducible refine EvLdN.q HS (by repeat first | exact .h | apply Spot.t) (fun hC => ?_)) | ((with_reducible refine EvSt.q HS (by repeat first | exact .h | apply Spot.t) ?_); (conv => whnf); intro hN HS1 hU; replace HS := HS1; clear HS1) | ((with_reducible refine EvKeep.cq (A := keepK _ _ (Hole _) _) HS (by repeat first | exact .h | apply Spot.t) ?_); (conv => whnf); (refine ⟨?_, ?_⟩); assumption; intro hC) | ((with_reducible refine EvKeep.nq (A := keepK _ _ (Hole _) _) HS (by repeat first | exact .h | apply Spot.t) ?_ ?_); assumption; intro hC) | ((fail_if_success with_reducible refine EvKeep.hole ?_); (with_reducible refine EvKeep.abs (fun X kK => ?_)))) <;> conv => whnf)
      unfold imspoil
      rw [if_pos (by assumption), if_neg (by assumption), if_neg (by assumption), if_neg (by assumption), if_neg (by assumption), if_neg (by assumption), if_pos (by assumption)]
      have HS := ((((HS.front 3 rfl).drop 2 rfl).drop 2 rfl).drop 2 rfl).drop 3 rfl
      have e1 : ints .i64 W.1 ++ [.int .i64 ([-1, 4294967296, 4294967295].getD (Int.tmod (IntKind.i64.wrap (Int.tdiv (bt l q) 7)) 3).toNat 0)] = ints .i64 (W.1 ++ [[-1, 4294967296, 4294967295].getD (Int.tmod (IntKind.i64.wrap (Int.tdiv (bt l q) 7)) 3).toNat 0]) := by simp
      rw [e1] at HS
      exact ⟨⟨⟨A', nW + 1, c2⟩, ⟨B, k, cB⟩⟩, rfl, HS⟩
    case refine_1.refine_2.refine_2.refine_2.refine_2.refine_2.refine_2.refine_2.refine_5 =>
      have e1 : (if ((cc : Nat) : Int).toNat = ((0 : Nat) : Int).toNat then C else C.map fun x => x.add (((0 : Nat) : Int).toNat * 1)) = C := by rw [add0, ite_self]
      rw [e1]
      unfold imspoil
      rw [if_pos (by assumption), if_neg (by assumption), if_neg (by assumption), if_neg (by assumption), if_neg (by assumption), if_neg (by assumption), if_neg (by assumption)]
      have HS := ((((HS.drop 1 rfl).drop 3 rfl).front 1 rfl).empty).front 1 rfl
      exact ⟨⟨⟨C, 0, cc⟩, ⟨B, k, cB⟩⟩, rfl, HS⟩
    case refine_2 =>
      unfold imspoil
      rw [if_neg (by omega)]
      exact ⟨⟨⟨C, nW, cc⟩, ⟨B, k, cB⟩⟩, rfl, (HS.drop 1 rfl).drop 3 rfl⟩
abbrev din (k : Int) : Nat := (k % 5).toNat
def dinp (l : List Int) (q : Nat) : List Int × Nat := (if 252 ≤ bt l q then List.replicate (IntKind.i64.wrap (10000 + Int.tmod (bt l q) 2)).toNat 0 else dbs l (q + 1) (din (bt l q)), q + 1 + din (bt l q))
theorem input_e {h0 h : Hp} {L : List Asn} {b q : Nat} {A : Option Addr} {l : List Int} (HS : Sep h0 h (RQ b A l.length q :: L)) (r : RdB h0 A l) :
    HC Try.prog 116 [.pointer (some ⟨b, 0, none⟩)] h fun v h' => ∃ x : Hdr, v = x.v ∧ Sep h0 h' (SlB x (dinp l q).1 :: RQ b A l.length (dinp l q).2 :: L) := by
  have hk := bt_r r.by_ q
  have e0 : Int.tmod (bt l q) 5 = (din (bt l q) : Int) := by
    show _ = (((bt l q % 5).toNat : Nat) : Int)
    rw [tmod_pos hk.1]
    omega
  have hdm : din (bt l q) ≤ 4 := by
    show (bt l q % 5).toNat ≤ 4
    omega
  unfold dinp
  dsimp only
  refine hc_of Try.func116 (rfl : Try.f116.body = some _) Try.ntmps116 Try.results116 Try.call116 rfl ?_; conv => whnf
  repeat' ((first | ((with_reducible refine EvCall.mk (HC.mono (next_e HS (by repeat first | exact .h | apply Spot.t) r) ?_)); rintro _ hN ⟨rfl, k0, k1, HS1⟩; replace HS := HS1; clear HS1) | (with_reducible first | refine EvIf.tt ?_ | refine EvIf.ff ?_) | ((with_reducible refine Hole.mk (kK ?_)); clear kK) | ((with_reducible refine EvIf.mk (fun c => ?_) (fun c => ?_)) <;> (try simp only [cs_] at c) <;> (try (exfalso; first | omega | (revert c; decide)))) | ((with_reducible refine EvNew.sep HS ?_); intro bN hN HS1 hX; replace HS := HS1; clear HS1) | ((with_reducible refine EvIdx.lit ?_ ?_ ?_); (first | omega | decide); (first | omega | decide)) | ((with_reducible first | refine EvNe.mk ?_ ?_ | refine EvGe.mk ?_ ?_); (first | decide | omega)) | ((with_reducible refine EvLd.q HS (by repeat first | exact .h | apply Spot.t) ?_); (conv => whnf); intro hC) | (with_reducible refine EvLdN.q HS (by repeat first | exact .h | apply Spot.t) (fun hC => ?_)) | ((with_reducible refine EvSt.q HS (by repeat first | exact .h | apply Spot.t) ?_); (conv => whnf); intro hN HS1 hU; replace HS := HS1; clear HS1) | ((with_reducible refine EvKeep.cq (A := keepK _ _ (Hole _) _) HS (by repeat first | exact .h | apply Spot.t) ?_); (conv => whnf); (refine ⟨?_, ?_⟩); assumption; intro hC) | ((with_reducible refine EvKeep.nq (A := keepK _ _ (Hole _) _) HS (by repeat first | exact .h | apply Spot.t) ?_ ?_); assumption; intro hC) | ((fail_if_success with_reducible refine EvKeep.hole ?_); (with_reducible refine EvKeep.abs (fun X kK => ?_)))) <;> conv => whnf)
  repeat' ((first | (with_reducible first | refine EvSeq.go ?_ | refine EvIf.tt ?_ | refine EvIf.ff ?_) | ((with_reducible refine Hole.mk (kK ?_)); clear kK) | ((with_reducible refine EvIf.mk (fun c => ?_) (fun c => ?_)) <;> (try simp only [cs_] at c) <;> (try (exfalso; first | omega | (revert c; decide)))) | ((with_reducible refine EvNew.sep HS ?_); intro bN hN HS1 hX; replace HS := HS1; clear HS1) | ((with_reducible refine EvIdx.lit ?_ ?_ ?_); (first | omega | decide); (first | omega | decide)) | ((with_reducible first | refine EvNe.mk ?_ ?_ | refine EvGe.mk ?_ ?_); (first | decide | omega)) | ((with_reducible refine EvLd.q HS (by repeat first | exact .h | apply Spot.t) ?_); (conv => whnf); intro hC) | (with_reducible refine EvLdN.q HS (by repeat first | exact .h | apply Spot.t) (fun hC => ?_)) | ((with_reducible refine EvSt.q HS (by repeat first | exact .h | apply Spot.t) ?_); (conv => whnf); intro hN HS1 hU; replace HS := HS1; clear HS1) | ((with_reducible refine EvKeep.cq (A := keepK _ _ (Hole _) _) HS (by repeat first | exact .h | apply Spot.t) ?_); (conv => whnf); (refine ⟨?_, ?_⟩); assumption; intro hC) | ((with_reducible refine EvKeep.nq (A := keepK _ _ (Hole _) _) HS (by repeat first | exact .h | apply Spot.t) ?_ ?_); assumption; intro hC) | ((fail_if_success with_reducible refine EvKeep.hole ?_); (with_reducible refine EvKeep.abs (fun X kK => ?_)))) <;> conv => whnf)
  generalize din (bt l q) = nD at *
  refine EvLoop.keep ([4, 5, 9, 10, 11, 12, 13, 14, 15, 16, 17, 18, 19, 20], 6) (α := Nat × Option Addr × Nat) (fun x => [(5, .int .i64 (x.1 : Int)), (4, .slice x.2.1 x.1 x.2.2)]) (fun x h' => x.1 ≤ nD ∧ Sep h0 h' (Sl 5 x.2.1 x.1 x.2.2 (ints .u8 (dbs l (q + 1) x.1)) :: RQ b A l.length (q + 1 + x.1) :: L)) (fun x => nD - x.1) (0, some ⟨bN, 0, none⟩, 0) (by (repeat' (first | exact trivial | refine ⟨rfl, ?_⟩))) ⟨Nat.zero_le _, HS.tail.triv _ _⟩ ?_
  clear HS
  rintro ⟨k, B, cB⟩ g ⟨hkn, HS⟩
  dsimp only at hkn HS
  conv => whnf
  refine EvSeq.go ?_
  conv => whnf
  repeat' ((first | (with_reducible first | refine EvIf.tt ?_ | refine EvIf.ff ?_) | ((with_reducible refine Hole.mk (kK ?_)); clear kK) | ((with_reducible refine EvIf.mk (fun c => ?_) (fun c => ?_)) <;> (try simp only [cs_] at c) <;> (try (exfalso; first | omega | (revert c; decide)))) | ((with_reducible refine EvNew.sep HS ?_); intro bN hN HS1 hX; replace HS := HS1; clear HS1) | ((with_reducible refine EvIdx.lit ?_ ?_ ?_); (first | omega | decide); (first | omega | decide)) | ((with_reducible first | refine EvNe.mk ?_ ?_ | refine EvGe.mk ?_ ?_); (first | decide | omega)) | ((with_reducible refine EvLd.q HS (by repeat first | exact .h | apply Spot.t) ?_); (conv => whnf); intro hC) | (with_reducible refine EvLdN.q HS (by repeat first | exact .h | apply Spot.t) (fun hC => ?_)) | ((with_reducible refine EvSt.q HS (by repeat first | exact .h | apply Spot.t) ?_); (conv => whnf); intro hN HS1 hU; replace HS := HS1; clear HS1) | ((with_reducible refine EvKeep.cq (A := keepK _ _ (Hole _) _) HS (by repeat first | exact .h | apply Spot.t) ?_); (conv => whnf); (refine ⟨?_, ?_⟩); assumption; intro hC) | ((with_reducible refine EvKeep.nq (A := keepK _ _ (Hole _) _) HS (by repeat first | exact .h | apply Spot.t) ?_ ?_); assumption; intro hC) | ((fail_if_success with_reducible refine EvKeep.hole ?_); (with_reducible refine EvKeep.abs (fun X kK => ?_)))) <;> conv => whnf)
  case refine_2.refine_1 =>
    repeat' ((first | ((with_reducible refine EvCall.mk (HC.mono (next_e HS (by repeat first | exact .h | apply Spot.t) r) ?_)); rintro _ hN ⟨rfl, k0, k1, HS1⟩; replace HS := HS1; clear HS1) | (with_reducible first | refine EvSeq.go ?_ | refine EvIf.tt ?_ | refine EvIf.ff ?_) | ((with_reducible refine Hole.mk (kK ?_)); clear kK) | ((with_reducible refine EvIf.mk (fun c => ?_) (fun c => ?_)) <;> (try simp only [cs_] at c) <;> (try (exfalso; first | omega | (revert c; decide)))) | ((with_reducible refine EvNew.sep HS ?_); intro bN hN HS1 hX; replace HS := HS1; clear HS1) | ((with_reducible refine EvIdx.lit ?_ ?_ ?_); (first | omega | decide); (first | omega | decide)) | ((with_reducible first | refine EvNe.mk ?_ ?_ | refine EvGe.mk ?_ ?_); (first | decide | omega)) | ((with_reducible refine EvLd.q HS (by repeat first | exact .h | apply Spot.t) ?_); (conv => whnf); intro hC) | (with_reducible refine EvLdN.q HS (by repeat first | exact .h | apply Spot.t) (fun hC => ?_)) | ((with_reducible refine EvSt.q HS (by repeat first | exact .h | apply Spot.t) ?_); (conv => whnf); intro hN HS1 hU; replace HS := HS1; clear HS1) | ((with_reducible refine EvKeep.cq (A := keepK _ _ (Hole _) _) HS (by repeat first | exact .h | apply Spot.t) ?_); (conv => whnf); (refine ⟨?_, ?_⟩); assumption; intro hC) | ((with_reducible refine EvKeep.nq (A := keepK _ _ (Hole _) _) HS (by repeat first | exact .h | apply Spot.t) ?_ ?_); assumption; intro hC) | ((fail_if_success with_reducible refine EvKeep.hole ?_); (with_reducible refine EvKeep.abs (fun X kK => ?_)))) <;> conv => whnf)
    refine EvApp.sli HS 1 rfl (Rd.of_blk (HS.pt_i 0 rfl)) rfl (by simp [Value.oneCell']) (by omega) (by omega) ?_
    intro A' c2 h2 HS
    dsimp only [List.eraseIdx] at HS
    conv => whnf
    repeat' ((first | (with_reducible first | refine EvSeq.go ?_ | refine EvIf.tt ?_ | refine EvIf.ff ?_) | ((with_reducible refine Hole.mk (kK ?_)); clear kK) | ((with_reducible refine EvIf.mk (fun c => ?_) (fun c => ?_)) <;> (try simp only [cs_] at c) <;> (try (exfalso; first | omega | (revert c; decide)))) | ((with_reducible refine EvNew.sep HS ?_); intro bN hN HS1 hX; replace HS := HS1; clear HS1) | ((with_reducible refine EvIdx.lit ?_ ?_ ?_); (first | omega | decide); (first | omega | decide)) | ((with_reducible first | refine EvNe.mk ?_ ?_ | refine EvGe.mk ?_ ?_); (first | decide | omega)) | ((with_reducible refine EvLd.q HS (by repeat first | exact .h | apply Spot.t) ?_); (conv => whnf); intro hC) | (with_reducible refine EvLdN.q HS (by repeat first | exact .h | apply Spot.t) (fun hC => ?_)) | ((with_reducible refine EvSt.q HS (by repeat first | exact .h | apply Spot.t) ?_); (conv => whnf); intro hN HS1 hU; replace HS := HS1; clear HS1) | ((with_reducible refine EvKeep.cq (A := keepK _ _ (Hole _) _) HS (by repeat first | exact .h | apply Spot.t) ?_); (conv => whnf); (refine ⟨?_, ?_⟩); assumption; intro hC) | ((with_reducible refine EvKeep.nq (A := keepK _ _ (Hole _) _) HS (by repeat first | exact .h | apply Spot.t) ?_ ?_); assumption; intro hC) | ((fail_if_success with_reducible refine EvKeep.hole ?_); (with_reducible refine EvKeep.abs (fun X kK => ?_)))) <;> conv => whnf)
    refine ⟨(k + 1, A', c2), ⟨congrArg (fun z => some (Value.int .i64 z)) ((i64w _ (by dsimp only; omega) (by dsimp only; omega)).trans (by dsimp only; omega)), (by (repeat' (first | exact trivial | refine ⟨rfl, ?_⟩)))⟩, ⟨by dsimp only; omega, ?_⟩, by dsimp only; omega⟩
    have HS := HS.drop 1 rfl
    have e1 : ints .u8 (dbs l (q + 1) (k + 1)) = ints .u8 (dbs l (q + 1) k) ++ [.int .u8 (IntKind.u8.wrap (bt l (q + 1 + k)))] := by
      rw [dbs_succ]
      simp
    dsimp only
    rw [e1]
    exact HS
  case refine_2.refine_2 =>
    obtain rfl : k = nD := by omega
    repeat' ((first | ((with_reducible refine EvMk.mk ?_ ?_ ?_ ?_ ?_); (simp (disch := omega) only [tdiv_pos, tmod_pos, i64w]; omega); omega; (simp (disch := omega) only [tdiv_pos, tmod_pos, i64w]; omega); (simp (disch := omega) only [tdiv_pos, tmod_pos, i64w]; omega)) | ((with_reducible refine EvNew.row HS ?_); intro bN hN HS1 hX; replace HS := HS1; clear HS1) | ((with_reducible refine EvCut.mk ?_ ?_ ?_ ?_ ?_); omega; omega; omega; omega) | (with_reducible first | refine EvSeq.go ?_ | refine EvIf.tt ?_ | refine EvIf.ff ?_) | ((with_reducible refine Hole.mk (kK ?_)); clear kK) | ((with_reducible refine EvIf.mk (fun c => ?_) (fun c => ?_)) <;> (try simp only [cs_] at c) <;> (try (exfalso; first | omega | (revert c; decide)))) | ((with_reducible refine EvNew.sep HS ?_); intro bN hN HS1 hX; replace HS := HS1; clear HS1) | ((with_reducible refine EvIdx.lit ?_ ?_ ?_); (first | omega | decide); (first | omega | decide)) | ((with_reducible first | refine EvNe.mk ?_ ?_ | refine EvGe.mk ?_ ?_); (first | decide | omega)) | ((with_reducible refine EvLd.q HS (by repeat first | exact .h | apply Spot.t) ?_); (conv => whnf); intro hC) | (with_reducible refine EvLdN.q HS (by repeat first | exact .h | apply Spot.t) (fun hC => ?_)) | ((with_reducible refine EvSt.q HS (by repeat first | exact .h | apply Spot.t) ?_); (conv => whnf); intro hN HS1 hU; replace HS := HS1; clear HS1) | ((with_reducible refine EvKeep.cq (A := keepK _ _ (Hole _) _) HS (by repeat first | exact .h | apply Spot.t) ?_); (conv => whnf); (refine ⟨?_, ?_⟩); assumption; intro hC) | ((with_reducible refine EvKeep.nq (A := keepK _ _ (Hole _) _) HS (by repeat first | exact .h | apply Spot.t) ?_ ?_); assumption; intro hC) | ((fail_if_success with_reducible refine EvKeep.hole ?_); (with_reducible refine EvKeep.abs (fun X kK => ?_)))) <;> conv => whnf)
    · rw [if_pos (by assumption)]
      have HS := HS.drop 1 rfl
      rw [← List.map_replicate] at HS
      exact ⟨⟨_, _, _⟩, rfl, HS⟩
    · rw [if_neg (by omega)]
      exact ⟨⟨B, k, cB⟩, rfl, HS⟩
end Go.Proofs.Ythndggachjdkfaa
