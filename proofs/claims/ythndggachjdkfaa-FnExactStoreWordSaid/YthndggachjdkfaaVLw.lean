/- A machine as one piece; the laws' parts over it. -/
import Derived.Test.YthndggachjdkfaaVMac
namespace Go.Proofs.Ythndggachjdkfaa
open Go.RowKit
set_option maxRecDepth 20000
set_option linter.unusedSimpArgs false
set_option linter.unusedVariables false
theorem sepL_app : ∀ {M L : List Asn} {h : Hp} {S1 S2 S : Foot}, sepL M h S1 → sepL L h S2 → (∀ b, S1 b → ¬ S2 b) → (∀ b, S1 b → S b) → (∀ b, S2 b → S b) → sepL (M ++ L) h S
  | [], L, h, S1, S2, S, _, r, _, _, s2 => sepL_sub r s2
  | A :: M, L, h, S1, S2, S, ⟨T1, T2, a, q, d', t1, t2⟩, r, d, s1, s2 => by
    refine ⟨T1, fun b => T2 b ∨ S2 b, a, sepL_app q r (fun b hb => d b (t2 b hb)) (fun b hb => .inl hb) (fun b hb => .inr hb), ?_, fun b hb => s1 b (t1 b hb), ?_⟩
    · rintro b hb (h2 | h2)
      · exact d' b hb h2
      · exact d b (t1 b hb) h2
    · rintro b (h2 | h2)
      · exact s1 b (t2 b h2)
      · exact s2 b h2
theorem sepL_split : ∀ {M L : List Asn} {h : Hp} {S : Foot}, sepL (M ++ L) h S → ∃ S1 S2, sepL M h S1 ∧ sepL L h S2 ∧ (∀ b, S1 b → ¬ S2 b) ∧ (∀ b, S1 b → S b) ∧ (∀ b, S2 b → S b)
  | [], L, h, S, r => ⟨fun _ => False, S, trivial, r, fun _ f => f.elim, fun _ f => f.elim, fun _ hb => hb⟩
  | A :: M, L, h, S, ⟨T1, T2, a, q, d, t1, t2⟩ => by
    obtain ⟨U1, U2, u, r, e, v1, v2⟩ := sepL_split q
    refine ⟨fun b => T1 b ∨ U1 b, U2, ⟨T1, U1, a, u, fun b hb h2 => d b hb (v1 b h2), fun b hb => .inl hb, fun b hb => .inr hb⟩, r, ?_, ?_, fun b hb => t2 b (v2 b hb)⟩
    · rintro b (h2 | h2)
      · exact fun h3 => d b h2 (v2 b h3)
      · exact e b h2
    · rintro b (h2 | h2)
      · exact t1 b h2
      · exact t2 b (v1 b h2)
/-- Pieces taken for one. -/
def All (M : List Asn) : Asn := ⟨fun h S => sepL M h S, fun a e => sepL_loc a e⟩
theorem Sep.fold {h0 h : Hp} {L : List Asn} (M : List Asn) (s : Sep h0 h (M ++ L)) : Sep h0 h (All M :: L) := by
  obtain ⟨e, S, hS, r⟩ := s
  obtain ⟨S1, S2, a, q, d, s1, s2⟩ := sepL_split r
  exact ⟨e, S, hS, S1, S2, a, q, d, s1, s2⟩
theorem Sep.unfold {h0 h : Hp} {M L : List Asn} (s : Sep h0 h (All M :: L)) : Sep h0 h (M ++ L) := by
  obtain ⟨e, S, hS, S1, S2, a, q, d, s1, s2⟩ := s
  exact ⟨e, S, hS, sepL_app a q d s1 s2⟩
abbrev Mo (x : MH) (m : Mac) : Asn := All (x.own m)
/-- the i-th piece is a machine -/
theorem Sep.rdm_i {h0 h : Hp} {L : List Asn} (s : Sep h0 h L) (i : Nat) {x : MH} {m : Mac} (hi : L[i]? = some (Mo x m)) : RdM h x m := (s.front i hi).unfold.rdm
theorem toMachine_m {h : Hp} {x : MH} {m : Mac} (r : RdM h x m) (b : Small x) : HC Try.prog 18 [x.v m] h fun v h' => ∃ y : MH, v = y.v m ∧ Small y ∧ Sep h h' [Mo y m] :=
  (toMachine_c r b).mono fun v h' ⟨y, e, s⟩ => ⟨y, e, by
    have q := Sep.rdm (L := []) (by rw [List.append_nil]; exact s)
    exact ⟨by rw [← q.cl, r.cl]; exact b.c, by rw [← q.rl, r.rl]; exact b.r, by rw [← q.dl, r.dl]; exact b.d, by rw [← q.sl, r.sl]; exact b.s, by rw [← q.il, r.il]; exact b.i, by rw [← q.ol, r.ol]; exact b.o⟩, Sep.fold (L := []) (y.own m) (by rw [List.append_nil]; exact s)⟩
theorem mark_m {h0 h : Hp} {L : List Asn} {x : MH} {m : Mac} {k : Int} (HS : Sep h0 h (Mo x m :: L)) (b : Small x) (k0 : 0 ≤ k) (k1 : k ≤ 100000000000) : HC Try.prog 27 [x.v m, .int .i64 k] h fun v h' => v = .int .i64 (k + x.cells) ∧ Sep h0 h' (Mo x (markM m k) :: L) :=
  (markMachine_c HS.unfold b k0 k1).mono fun v h' ⟨e, s⟩ => ⟨e, s.fold (x.own _)⟩
theorem held_m {h : Hp} {x : MH} {m m' : Mac} {k : Int} (r : RdM h x (markM m k)) (r0 : RdM h x m ∨ ∃ h', RdM h' x m) (b : Small x) (k0 : 0 ≤ k) (k1 : k ≤ 100000000000) : HC Try.prog 28 [x.v m', .int .i64 k] h fun v h' => v = .int .i64 (k + x.cells) ∧ Ext h h' :=
  heldMachine_c r (by rcases r0 with r0 | ⟨_, r0⟩ <;> exact ⟨r0.cl, r0.rl, r0.dl, r0.sl, r0.il, r0.ol⟩) b k0 k1
end Go.Proofs.Ythndggachjdkfaa
