/- A machine as one piece; the laws' parts over it. -/
import Derived.Test.YtjggmhpjlnmigaaDoorVMac
namespace Go.Proofs.YtjggmhpjlnmigaaDoor
open Go.RowKit
set_option maxRecDepth 20000
set_option linter.unusedSimpArgs false
set_option linter.unusedVariables false
theorem sepL_app : ∀ {M L : List Asn} {h : Hp} {S1 S2 S : Foot}, sepL M h S1 → sepL L h S2 → (∀ b, S1 b → ¬ S2 b) → (∀ b, S1 b → S b) → (∀ b, S2 b → S b) → sepL (M ++ L) h S
  | [], L, h, S1, S2, S, _, r, _, _, s2 => sepL_sub r s2
  | A :: M, L, h, S1, S2, S, ⟨T1, T2, a, q, d', t1, t2⟩, r, d, s1, s2 => by
    refine ⟨T1, fun b => T2 b ∨ S2 b, a, sepL_app q r (fun b hb => d b (t2 b hb)) (fun b hb => .inl hb) (fun b hb => .inr hb), ?_, fun b hb => s1 b (t1 b hb), ?_⟩
    · rintro b hb (h2 | h2)
      · exact d' b hb h2
      · exact d b (t1 b hb) h2
    · rintro b (h2 | h2)
      · exact s1 b (t2 b h2)
      · exact s2 b h2
theorem sepL_split : ∀ {M L : List Asn} {h : Hp} {S : Foot}, sepL (M ++ L) h S → ∃ S1 S2, sepL M h S1 ∧ sepL L h S2 ∧ (∀ b, S1 b → ¬ S2 b) ∧ (∀ b, S1 b → S b) ∧ (∀ b, S2 b → S b)
  | [], L, h, S, r => ⟨fun _ => False, S, trivial, r, fun _ f => f.elim, fun _ f => f.elim, fun _ hb => hb⟩
  | A :: M, L, h, S, ⟨T1, T2, a, q, d, t1, t2⟩ => by
    obtain ⟨U1, U2, u, r, e, v1, v2⟩ := sepL_split q
    refine ⟨fun b => T1 b ∨ U1 b, U2, ⟨T1, U1, a, u, fun b hb h2 => d b hb (v1 b h2), fun b hb => .inl hb, fun b hb => .inr hb⟩, r, ?_, ?_, fun b hb => t2 b (v2 b hb)⟩
    · rintro b (h2 | h2)
      · exact fun h3 => d b h2 (v2 b h3)
      · exact e b h2
    · rintro b (h2 | h2)
      · exact t1 b h2
      · exact t2 b (v1 b h2)
/-- Pieces taken for one. -/
def All (M : List Asn) : Asn := ⟨fun h S => sepL M h S, fun a e => sepL_loc a e⟩
theorem Sep.fold {h0 h : Hp} {L : List Asn} (M : List Asn) (s : Sep h0 h (M ++ L)) : Sep h0 h (All M :: L) := by
  obtain ⟨e, S, hS, r⟩ := s
  obtain ⟨S1, S2, a, q, d, s1, s2⟩ := sepL_split r
  exact ⟨e, S, hS, S1, S2, a, q, d, s1, s2⟩
theorem Sep.unfold {h0 h : Hp} {M L : List Asn} (s : Sep h0 h (All M :: L)) : Sep h0 h (M ++ L) := by
  obtain ⟨e, S, hS, S1, S2, a, q, d, s1, s2⟩ := s
  exact ⟨e, S, hS, sepL_app a q d s1 s2⟩
abbrev Mo (x : MH) (m : Mac) : Asn := All (x.own m)
/-- the i-th piece is a machine -/
theorem Sep.rdm_i {h0 h : Hp} {L : List Asn} (s : Sep h0 h L) (i : Nat) {x : MH} {m : Mac} (hi : L[i]? = some (Mo x m)) : RdM h x m := (s.front i hi).unfold.rdm
theorem small_of {h h' : Hp} {x y : MH} {m : Mac} (r : RdM h x m) (q : RdM h' y m) (b : Small x) : Small y :=
  ⟨by rw [← q.cl, r.cl]; exact b.c, by rw [← q.rl, r.rl]; exact b.r, by rw [← q.dl, r.dl]; exact b.d, by rw [← q.sl, r.sl]; exact b.s, by rw [← q.il, r.il]; exact b.i, by rw [← q.ol, r.ol]; exact b.o⟩
/-- lengths stay -/
structure SameLen (m m' : Mac) : Prop where
  c : m'.code.length = m.code.length
  r : m'.regs.length = m.regs.length
  d : m'.data.length = m.data.length
  s : m'.stack.length = m.stack.length
  i : m'.inp.length = m.inp.length
  o : m'.out.length = m.out.length
theorem small_len {h h' : Hp} {x y : MH} {m m' : Mac} (r : RdM h x m) (q : RdM h' y m') (l : SameLen m m') (b : Small x) : Small y :=
  ⟨by rw [← q.cl, l.c, r.cl]; exact b.c, by rw [← q.rl, l.r, r.rl]; exact b.r, by rw [← q.dl, l.d, r.dl]; exact b.d, by rw [← q.sl, l.s, r.sl]; exact b.s, by rw [← q.il, l.i, r.il]; exact b.i, by rw [← q.ol, l.o, r.ol]; exact b.o⟩
theorem Sep.foldM {h h' : Hp} {y : MH} {m : Mac} (s : Sep h h' (y.own m)) : Sep h h' [Mo y m] := Sep.fold (L := []) (y.own m) (by rw [List.append_nil]; exact s)
theorem Sep.rdM0 {h h' : Hp} {y : MH} {m : Mac} (s : Sep h h' (y.own m)) : RdM h' y m := Sep.rdm (L := []) (by rw [List.append_nil]; exact s)
end Go.Proofs.YtjggmhpjlnmigaaDoor
