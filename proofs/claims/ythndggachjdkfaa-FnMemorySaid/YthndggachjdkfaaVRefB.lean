/- Walks: the reference's calls to the world. -/
import Derived.Test.YthndggachjdkfaaVRefA
import Derived.Test.YthndggachjdkfaaVStepE
namespace Go.Proofs.Ythndggachjdkfaa
open Go.RowKit
set_option maxRecDepth 20000
set_option linter.unusedSimpArgs false
set_option linter.unusedVariables false
/-- a call to the world, before the machine goes on -/
def ecl0 (m : Mac) : Mac × Int :=
  if getR m 17 = 1 then (if m.out.length = 10000 then (m, 6) else ({ m with out := m.out ++ [getR m 10 % 256] }, 0))
  else if getR m 17 = 2 then (match m.inp with
    | [] => ({ m with regs := m.regs.set 10 4294967295 }, 0)
    | b :: r => ({ m with regs := m.regs.set 10 b, inp := r }, 0))
  else if getR m 17 = 3 then ({ m with fin := 1, value := getR m 10 }, 0)
  else if getR m 17 = 4 then ({ m with fin := 3, value := 0 }, 0)
  else (m, 5)
theorem ecl_of (m : Mac) (hf : m.fin = 0) : ecl m = if (ecl0 m).2 ≠ 0 ∨ (ecl0 m).1.fin ≠ 0 then ecl0 m else (nx (ecl0 m).1 (m.pc + 4), 0) := by
  unfold ecl ecl0
  split
  · split
    · rw [if_pos (.inl (by simp))]
    · rw [if_neg (by simp [hf])]
  split
  · cases m.inp with
    | nil => simp [hf]
    | cons b r => simp [hf]
  split
  · rw [if_pos (.inr (by simp))]
  split
  · rw [if_pos (.inr (by simp))]
  · rw [if_pos (.inl (by simp))]
set_option maxHeartbeats 8000000 in
theorem l3Ecall_c {h0 h : Hp} {L : List Asn} {x : MH} {m : Mac} {b : Nat} (HS : Sep h0 h (Bx b (x.cs m) 36 :: (x.own m ++ L))) (ok : Ok m) :
    HC Try.prog 167 [.pointer (some ⟨b, 0, none⟩)] h fun v h' => ∃ x' : MH, v = .int .i64 (ecl0 m).2 ∧ Sep h0 h' (Bx b (x'.cs (ecl0 m).1) 36 :: (x'.own (ecl0 m).1 ++ L)) := by
  have r := HS.tail.rdm
  have hrl := r.rl
  have hin := r.il
  have hon := r.ol
  have r0 := ok.r0
  have o1 := ok.o1
  have i1 := ok.i1
  have hic := (HS.len 2 rfl).2
  refine hc_of Try.func167 (rfl : Try.f167.body = some _) Try.ntmps167 Try.results167 Try.call167 rfl ?_; conv => whnf
  repeat' ((first | ((with_reducible refine EvDraw.ord (id := 5) (.go 0 (.go 1 (.go 2 (.go 3 (.go 4 (.go 5 (.go 6 (.go 7 (.go 8 (.go 9 (.go 10 (.go 11 (.go 12 (.alt 13 (.alt 14 (.go 15 (.go 16 (.alt 17 .done .stop))) .stop) .stop)))))))))))))) fol ?_ ?_ ?_); kernel_rfl; kernel_rfl) | ((with_reducible refine EvDraw.ord (id := 11) (.go 0 (.go 1 (.go 2 (.go 3 (.go 4 (.go 5 (.go 6 (.go 7 (.go 8 (.go 9 (.go 10 (.go 11 (.alt 12 .done .stop))))))))))))) fol ?_ ?_ ?_); kernel_rfl; kernel_rfl) | ((refine EvKeep.ext (A := keepK _ _ (Hole _) _) hX (by exact hcell_lt hI) ?_); (have hI := hX.cell hI)) | ((refine EvKeep.one (A := keepK _ _ (Hole _) _) (by first | exact hI | exact hX.cell hI) (rd_cell (HS.rd 6 rfl) eI (by omega)) ?_)) | ((refine EvApp.sli HS 2 rfl (Rd.of_blk (HS.pt_i 0 rfl)) rfl (by simp [Value.oneCell']) (by omega) (by omega) ?_); intro AN cN hN HS1; replace HS := HS1; clear HS1; dsimp only [List.eraseIdx] at HS) | ((with_reducible refine EvLd.at_ (by assumption) ?_)) | ((with_reducible refine EvKeep.same ?_)) | ((refine EvSt.sli HS 5 rfl eI (by omega) ?_); intro hN HS1; replace HS := HS1; clear HS1; dsimp only [List.set] at HS) | ((refine EvCut.mk (by omega) (by omega) (by omega) (by omega) ?_)) | ((refine EvIdx.intj _ rfl (HS.rd 5 rfl) (HS.len 5 rfl).1 (by omega) (by omega) ?_); intro bI oI eI hI) | ((refine EvIdx.intj _ rfl (HS.rd 2 rfl) (HS.len 2 rfl).1 (by omega) (by omega) ?_); intro bI oI eI hI) | ((refine EvIdx.rd (HS.rd 5 rfl) (HS.len 5 rfl).1 (by omega) (by omega) ?_); intro bI oI eI hI) | (with_reducible first | refine EvSeq.go ?_ | refine EvIf.tt ?_ | refine EvIf.ff ?_) | ((with_reducible refine Hole.mk (kK ?_)); clear kK) | ((with_reducible refine EvIf.mk (fun c => ?_) (fun c => ?_)) <;> (try simp only [cs_] at c) <;> (try (exfalso; first | omega | (revert c; decide)))) | ((with_reducible refine EvNew.sep HS ?_); intro bN hN HS1 hX; replace HS := HS1; clear HS1) | ((with_reducible refine EvIdx.lit ?_ ?_ ?_); (first | omega | decide); (first | omega | decide)) | ((with_reducible first | refine EvNe.mk ?_ ?_ | refine EvGe.mk ?_ ?_); (first | decide | omega)) | ((with_reducible refine EvLd.q HS (by repeat first | exact .h | apply Spot.t) ?_); (conv => whnf); intro hC) | (with_reducible refine EvLdN.q HS (by repeat first | exact .h | apply Spot.t) (fun hC => ?_)) | ((with_reducible refine EvSt.q HS (by repeat first | exact .h | apply Spot.t) ?_); (conv => whnf); intro hN HS1 hU; replace HS := HS1; clear HS1) | ((with_reducible refine EvKeep.cq (A := keepK _ _ (Hole _) _) HS (by repeat first | exact .h | apply Spot.t) ?_); (conv => whnf); (refine ⟨?_, ?_⟩); assumption; intro hC) | ((with_reducible refine EvKeep.nq (A := keepK _ _ (Hole _) _) HS (by repeat first | exact .h | apply Spot.t) ?_ ?_); assumption; intro hC) | ((fail_if_success with_reducible refine EvKeep.hole ?_); (with_reducible refine EvKeep.abs (fun X kK => ?_)))) <;> conv => whnf)
  · have h17 : getR m 17 = 1 := by assumption
    have he : ecl0 m = (m, 6) := by unfold ecl0; rw [if_pos h17, if_pos (by omega)]
    rw [he]
    exact ⟨x, rfl, HS⟩
  · have h17 : getR m 17 = 1 := by assumption
    have he : ecl0 m = ({ m with out := m.out ++ [getR m 10 % 256] }, 0) := by unfold ecl0; rw [if_pos h17, if_neg (by omega)]
    rw [he]
    have hg := ok.reg 10
    unfold getR at hg
    have q0 : IntKind.u8.wrap ((m.regs.getD (Int.toNat 10) 0).tmod 256) = getR m 10 % 256 := by
      rw [wrap_u8, tmod_pos hg.1, Int.emod_emod_of_dvd _ (Int.dvd_refl _)]
      rfl
    have q : ints .u8 m.out ++ [.int .u8 (getR m 10 % 256)] = ints .u8 (m.out ++ [getR m 10 % 256]) := by simp only [ints, List.map_append]; rfl
    rw [q0, q] at HS
    exact ⟨{ x with o := ⟨AN, x.o.n + 1, cN⟩ }, rfl, (((HS.front 2 rfl).front 2 rfl).tail)⟩
  · have h17' : getR m 17 = 2 := by assumption
    have hnil : m.inp = [] := List.eq_nil_of_length_eq_zero (by omega)
    have he : ecl0 m = ({ m with regs := m.regs.set 10 4294967295 }, 0) := by
      unfold ecl0
      rw [if_neg (by omega), if_pos h17', hnil]
    rw [he]
    rw [ints_set] at HS
    exact ⟨x, rfl, HS⟩
  · obtain ⟨v, rest, einp⟩ : ∃ v r, m.inp = v :: r := List.exists_cons_of_length_pos (by omega)
    have h17' : getR m 17 = 2 := by assumption
    have he : ecl0 m = ({ m with regs := m.regs.set 10 v, inp := rest }, 0) := by
      unfold ecl0
      rw [if_neg (by omega), if_pos h17', einp]
    rw [he]
    have hvb := ok.ib v (by rw [einp]; simp)
    have hv : IntKind.i64.wrap (m.inp.getD (Int.toNat 0) 0) = v := by
      rw [einp]
      exact i64w v (by omega) (by omega)
    rw [hv, ints_set] at HS
    have H1 := HS.front 2 rfl
    rw [einp] at H1
    have H2 := H1.weaken fun S a => Sl.cut1 a
    exact ⟨{ x with i := ⟨if (x.i.c : Int).toNat = Int.toNat 1 then x.i.a else Option.map (fun x => x.add (Int.toNat 1 * 1)) x.i.a, (x.i.n : Int).toNat - Int.toNat 1, (x.i.c : Int).toNat - Int.toNat 1⟩ }, rfl, (H2.front 2 rfl).front 2 rfl⟩
  · have h17 : getR m 17 = 3 := by assumption
    have he : ecl0 m = ({ m with fin := 1, value := getR m 10 }, 0) := by
      unfold ecl0
      rw [if_neg (by omega), if_neg (by omega), if_pos h17]
    rw [he]
    exact ⟨x, rfl, HS⟩
  · have h17 : getR m 17 = 4 := by assumption
    have he : ecl0 m = ({ m with fin := 3, value := 0 }, 0) := by
      unfold ecl0
      rw [if_neg (by omega), if_neg (by omega), if_neg (by omega), if_pos h17]
    rw [he]
    exact ⟨x, rfl, HS⟩
  · have he : ecl0 m = (m, 5) := by
      have n1 : ¬ getR m 17 = 1 := by assumption
      have n2 : ¬ getR m 17 = 2 := by assumption
      have n3 : ¬ getR m 17 = 3 := by assumption
      have n4 : ¬ getR m 17 = 4 := by assumption
      unfold ecl0
      rw [if_neg n1, if_neg n2, if_neg n3, if_neg n4]
    rw [he]
    exact ⟨x, rfl, HS⟩
theorem flt_mod (d s : Nat) (hd : d ≤ 65536) (hs : s ≤ 65536) (kd a : Int) (hk : ks kd ≠ 0) (a0 : -1048576 ≤ a) (a1 : a ≤ 4296015871) : flt d s kd (a % 4294967296) = flt d s kd a ∧ (flt d s kd a = 0 → a % 4294967296 = a) := by
  by_cases h : 0 ≤ a ∧ a < 4294967296
  · rw [Int.emod_eq_of_lt h.1 h.2]
    exact ⟨rfl, fun _ => rfl⟩
  · have hn := ks_cases hk
    have e1 : spot d s a (ks kd) = (0, 0) := by unfold spot; rw [if_neg (by omega), if_neg (by omega)]
    have e2 : spot d s (a % 4294967296) (ks kd) = (0, 0) := by unfold spot; rw [if_neg (by omega), if_neg (by omega)]
    have e3 : a % 4294967296 % ks kd = a % ks kd := by rcases hn with e | e | e <;> rw [e] <;> omega
    unfold flt
    rw [e1, e2, e3]
    refine ⟨rfl, fun e => ?_⟩
    split at e
    · cases e
    · cases e
theorem ld_mod (m : Mac) (hd : m.data.length ≤ 65536) (hs : m.stack.length ≤ 65536) (kd a : Int) (hk : ks kd ≠ 0) (a0 : -1048576 ≤ a) (a1 : a ≤ 4296015871) : mflt m kd (a % 4294967296) = mflt m kd a ∧ ldR m kd (a % 4294967296) = ldR m kd a ∧ ∀ w, stM m kd (a % 4294967296) w = stM m kd a w := by
  obtain ⟨e1, e2⟩ := flt_mod _ _ hd hs kd a hk a0 a1
  have e1' : mflt m kd (a % 4294967296) = mflt m kd a := e1
  refine ⟨e1, ?_, fun w => ?_⟩
  · unfold ldR
    rw [e1']
    by_cases h : mflt m kd a = 0
    · rw [if_pos h, if_pos h, e2 h]
    · rw [if_neg h, if_neg h]
  · unfold stM
    rw [e1]
    by_cases h : flt m.data.length m.stack.length kd a = 0
    · rw [e2 h]
    · rw [if_pos h, if_pos h]
end Go.Proofs.Ythndggachjdkfaa
