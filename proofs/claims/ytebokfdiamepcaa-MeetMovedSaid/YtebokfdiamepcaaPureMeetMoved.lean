/- The plain law of MeetMoved. -/
import Derived.Test.YtebokfdiamepcaaH4
set_option linter.unusedVariables false
set_option linter.unusedSimpArgs false
namespace Go.Proofs.Ytebokfdiamepcaa.Pure
open Go.RowKit Go.Proofs.Ytebokfdiamepcaa.AM
/-- How two segments meet does not turn where sides and places between are kept. -/
theorem how_T {T : Pt → Pt} {Q : Pt → Prop} (hI : ∀ x y, T x = T y ↔ x = y) (hOn : ∀ x y z, Q x → Q y → Q z → (On (T x) (T y) (T z) ↔ On x y z)) (hOri : ∀ x y z v, Q x → Q y → Q z → Q v → ori (T x) (T y) (T z) * ori (T x) (T y) (T v) = ori x y z * ori x y v)
    {a b c d : Pt} (ha : Q a) (hb : Q b) (hc : Q c) (hd : Q d) : how (T a) (T b) (T c) (T d) = how a b c d := by
  have hIns : ∀ x y z, Q x → Q y → Q z → (Ins (T x) (T y) (T z) ↔ Ins x y z) := by
    intro x y z h1 h2 h3
    unfold Ins
    rw [hOn x y z h1 h2 h3, ne_eq, ne_eq, hI, hI]
  have e1 : ends (T a) (T b) (T c) (T d) = ends a b c d := by unfold ends; simp only [hI]
  have e2 : inss (T a) (T b) (T c) (T d) = inss a b c d := by
    unfold inss
    simp only [hIns a b c ha hb hc, hIns a b d ha hb hd, hIns c d a hc hd ha, hIns c d b hc hd hb]
  have e3 : Cro (T a) (T b) (T c) (T d) ↔ Cro a b c d := by
    unfold Cro
    rw [hOri a b c d ha hb hc hd, hOri c d a b hc hd ha hb]
  unfold how
  rw [e1, e2]
  simp only [e3]
def rot (p : Pt) : Pt := (-p.2, p.1)
def mir (p : Pt) : Pt := (-p.1, p.2)
def shi (s p : Pt) : Pt := (p.1 + s.1, p.2 + s.2)
theorem sg_neg (x : Int) : sg (-x) = -sg x := by unfold sg; (repeat' split) <;> omega
theorem how_rot {a b c d : Pt} : how (rot a) (rot b) (rot c) (rot d) = how a b c d := by
  have hf : ∀ x, Fit (rot x) ↔ Fit x := fun x => by unfold Fit rot; dsimp only; omega
  have hc : ∀ x y z, crs (rot x) (rot y) (rot z) = crs x y z := fun x y z => by unfold crs rot; grind
  refine how_T (Q := fun _ => True) (fun x y => ?_) (fun x y z _ _ _ => ?_) (fun x y z v _ _ _ _ => ?_) trivial trivial trivial trivial
  · unfold rot; cases x; cases y; simp <;> omega
  · unfold On
    rw [hf, hf, hf, hc]
    have e : rot x = rot y ↔ x = y := by unfold rot; cases x; cases y; simp <;> omega
    rw [ne_eq, e]
    unfold Btw rot
    dsimp only
    constructor
    · rintro ⟨h1, h2, h3, h4, h5⟩; exact ⟨h1, h2, h3, by omega, by omega⟩
    · rintro ⟨h1, h2, h3, h4, h5⟩; exact ⟨h1, h2, h3, by omega, by omega⟩
  · unfold ori
    simp only [hf, hc]
theorem how_mir {a b c d : Pt} : how (mir a) (mir b) (mir c) (mir d) = how a b c d := by
  have hf : ∀ x, Fit (mir x) ↔ Fit x := fun x => by unfold Fit mir; dsimp only; omega
  have hc : ∀ x y z, crs (mir x) (mir y) (mir z) = -crs x y z := fun x y z => by unfold crs mir; grind
  refine how_T (Q := fun _ => True) (fun x y => ?_) (fun x y z _ _ _ => ?_) (fun x y z v _ _ _ _ => ?_) trivial trivial trivial trivial
  · unfold mir; cases x; cases y; simp <;> omega
  · unfold On
    rw [hf, hf, hf, hc]
    have e : mir x = mir y ↔ x = y := by unfold mir; cases x; cases y; simp <;> omega
    rw [ne_eq, e]
    unfold Btw mir
    dsimp only
    constructor
    · rintro ⟨h1, h2, h3, h4, h5⟩; exact ⟨h1, h2, by omega, by omega, by omega⟩
    · rintro ⟨h1, h2, h3, h4, h5⟩; exact ⟨h1, h2, by omega, by omega, by omega⟩
  · unfold ori
    simp only [hf, hc, sg_neg]
    split <;> split <;> first | rfl | (simp; done) | grind
theorem how_shi {s a b c d : Pt} (ha : Fit a ∧ Fit (shi s a)) (hb : Fit b ∧ Fit (shi s b)) (hc : Fit c ∧ Fit (shi s c)) (hd : Fit d ∧ Fit (shi s d)) : how (shi s a) (shi s b) (shi s c) (shi s d) = how a b c d := by
  have hcr : ∀ x y z, crs (shi s x) (shi s y) (shi s z) = crs x y z := fun x y z => by unfold crs shi; grind
  refine how_T (Q := fun x => Fit x ∧ Fit (shi s x)) (fun x y => ?_) (fun x y z h1 h2 h3 => ?_) (fun x y z v h1 h2 h3 h4 => ?_) ha hb hc hd
  · unfold shi; cases x; cases y; simp <;> omega
  · unfold On
    rw [hcr]
    have e : shi s x = shi s y ↔ x = y := by unfold shi; cases x; cases y; simp <;> omega
    rw [ne_eq, e]
    unfold Btw
    constructor
    · rintro ⟨q1, q2, q3, q4, q5⟩; unfold shi at q4 q5; dsimp only at q4 q5; exact ⟨q1, ⟨h1.1, h2.1, h3.1⟩, q3, by omega, by omega⟩
    · rintro ⟨q1, q2, q3, q4, q5⟩; unfold shi; dsimp only; exact ⟨q1, ⟨h1.2, h2.2, h3.2⟩, q3, by omega, by omega⟩
  · unfold ori
    rw [if_pos ⟨h1.2, h2.2, h3.2⟩, if_pos ⟨h1.2, h2.2, h4.2⟩, if_pos ⟨h1.1, h2.1, h3.1⟩, if_pos ⟨h1.1, h2.1, h4.1⟩, hcr, hcr]
theorem rfits_f (k : Nat) (p : Pt) : g_parquetref03_Fits k p = some (decide (Fit p)) := by
  unfold g_parquetref03_Fits
  simp only [meet]
  have no : ∀ h : ¬ Fit p, (some false : Option Bool) = some (decide (Fit p)) := fun h => by rw [decide_eq_false h]
  by_cases h1 : p.1 ≥ -4294967296
  · rw [bif_T h1]
    by_cases h2 : p.1 ≤ 4294967296
    · rw [bif_T h2]
      by_cases h3 : p.2 ≥ -4294967296
      · rw [bif_T h3]
        congr 1
        rw [decide_eq_decide]
        unfold Fit
        omega
      · rw [bif_F h3]; exact no (by unfold Fit; omega)
    · rw [bif_F h2]; exact no (by unfold Fit; omega)
  · rw [bif_F h1]; exact no (by unfold Fit; omega)
theorem w64_neg {x : Int} (h : -4294967296 ≤ x ∧ x ≤ 4294967296) : w64 (0 - x) = -x := by rw [w64_id (by omega) (by omega)]; omega
theorem moved_law (m : Nat) (a b c d s : Pt) : g_parquetlaw04_MeetMoved (m + 6) a b c d s = some true := by
  unfold g_parquetlaw04_MeetMoved b_parquetlaw04_MeetMoved
  simp only [etaP, g_parquetlaw04_p, bnd_s, meet]
  rw [Segs_f, known_f, rfits_f]
  simp only [bnd_s, Segs_f]
  by_cases hb : Bad a b c d
  · rw [segs, if_pos hb]; rfl
  rw [segs, if_neg hb]
  simp only [decide_true, Bool.not_true, cF]
  have hab : a ≠ b := fun e => hb (Or.inl e)
  have hcd : c ≠ d := fun e => hb (Or.inr (Or.inl e))
  have hf : Fit a ∧ Fit b ∧ Fit c ∧ Fit d := Decidable.not_not.1 fun e => hb (Or.inr (Or.inr e))
  obtain ⟨fa, fb, fc, fd⟩ := hf
  by_cases hns : ¬ Fit s
  · rw [decide_eq_false hns]; rfl
  have hs := Decidable.not_not.1 hns
  rw [decide_eq_true hs]
  simp only [Bool.not_true, cF]
  have fa' := fa; have fb' := fb; have fc' := fc; have fd' := fd; have fs' := hs
  unfold Fit at fa' fb' fc' fd' fs'
  rw [w64_neg (x := a.1) (by omega), w64_neg (x := b.1) (by omega), w64_neg (x := c.1) (by omega), w64_neg (x := d.1) (by omega), w64_neg (x := a.2) (by omega), w64_neg (x := b.2) (by omega), w64_neg (x := c.2) (by omega), w64_neg (x := d.2) (by omega)]
  rw [w64_id (x := a.1 + s.1) (by omega) (by omega), w64_id (x := b.1 + s.1) (by omega) (by omega), w64_id (x := c.1 + s.1) (by omega) (by omega), w64_id (x := d.1 + s.1) (by omega) (by omega), w64_id (x := a.2 + s.2) (by omega) (by omega), w64_id (x := b.2 + s.2) (by omega) (by omega), w64_id (x := c.2 + s.2) (by omega) (by omega), w64_id (x := d.2 + s.2) (by omega) (by omega)]
  have r1 : segs (-a.2, a.1) (-b.2, b.1) (-c.2, c.1) (-d.2, d.1) = (how a b c d, 0) := by
    rw [segs, if_neg, ← how_rot (a := a) (b := b) (c := c) (d := d)]
    · rfl
    · rintro (h | h | h)
      · exact hab (by cases a; cases b; simp at h ⊢; omega)
      · exact hcd (by cases c; cases d; simp at h ⊢; omega)
      · exact h (by unfold Fit; dsimp only; omega)
  have r2 : segs (-a.1, a.2) (-b.1, b.2) (-c.1, c.2) (-d.1, d.2) = (how a b c d, 0) := by
    rw [segs, if_neg, ← how_mir (a := a) (b := b) (c := c) (d := d)]
    · rfl
    · rintro (h | h | h)
      · exact hab (by cases a; cases b; simp at h ⊢; omega)
      · exact hcd (by cases c; cases d; simp at h ⊢; omega)
      · exact h (by unfold Fit; dsimp only; omega)
  rw [r1, r2]
  simp only [decide_true, cT]
  by_cases hb' : Bad (a.1 + s.1, a.2 + s.2) (b.1 + s.1, b.2 + s.2) (c.1 + s.1, c.2 + s.2) (d.1 + s.1, d.2 + s.2)
  · rw [segs, if_pos hb']; rfl
  · have hf' : Fit (shi s a) ∧ Fit (shi s b) ∧ Fit (shi s c) ∧ Fit (shi s d) := Decidable.not_not.1 fun e => hb' (Or.inr (Or.inr e))
    have r3 : how (a.1 + s.1, a.2 + s.2) (b.1 + s.1, b.2 + s.2) (c.1 + s.1, c.2 + s.2) (d.1 + s.1, d.2 + s.2) = how a b c d := how_shi (s := s) ⟨fa, hf'.1⟩ ⟨fb, hf'.2.1⟩ ⟨fc, hf'.2.2.1⟩ ⟨fd, hf'.2.2.2⟩
    rw [segs, if_neg hb', r3]
    simp only [decide_true, Bool.not_true, cF, cT]
theorem MeetMoved (x0 : (Int × Int)) (x1 : (Int × Int)) (x2 : (Int × Int)) (x3 : (Int × Int)) (x4 : (Int × Int)) (g0 : Kd.good (.pair kI kI) x0) (g1 : Kd.good (.pair kI kI) x1) (g2 : Kd.good (.pair kI kI) x2) (g3 : Kd.good (.pair kI kI) x3) (g4 : Kd.good (.pair kI kI) x4) : ∃ k, g_parquetlaw04_MeetMoved k x0 x1 x2 x3 x4 = some true :=
  ⟨6, moved_law 0 x0 x1 x2 x3 x4⟩
end Go.Proofs.Ytebokfdiamepcaa.Pure
