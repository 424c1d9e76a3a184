/- Segments that lie apart, or share an end alone; the box with a hole. -/
import Derived.Test.YtjbimhfhapnjeaaV21
section
set_option linter.unusedVariables false
set_option linter.unusedSimpArgs false
set_option linter.unusedSectionVars false
namespace Go.Proofs.Ytjbimhfhapnjeaa.Pure
open Go.RowKit Go.Proofs.Ytjbimhfhapnjeaa.AM PL

/-- Two that meet as they may. -/
def Kp (s t : Sg) : Prop := ¬ (segs s.1 s.2 t.1 t.2).1 > 1
instance (s t : Sg) : Decidable (Kp s t) := inferInstanceAs (Decidable (¬ _))
theorem kp_turn {s t : Sg} (h : Kp s t) : Kp t s := by unfold Kp at *; rw [segs_turn]; exact h
theorem kp_swap {a b : Pt} {t : Sg} (h : Kp (a, b) t) : Kp (b, a) t := by unfold Kp at *; rw [segs_swap]; exact h
theorem kp_last {a b : Pt} {t : Sg} (h : Kp t (a, b)) : Kp t (b, a) := by unfold Kp at *; rw [segs_last]; exact h
theorem kp_of {a b c d : Pt} (h : ¬ Bad a b c d → how a b c d ≤ 1) : Kp (a, b) (c, d) := by
  unfold Kp segs
  by_cases hb : Bad a b c d
  · rw [if_pos hb]; exact (by decide : ¬ (0 : Int) > 1)
  · rw [if_neg hb]; have := h hb; dsimp only; omega
def trn (a : Pt) : Pt := (a.2, a.1)
theorem crs_trn (a b c : Pt) : crs (trn a) (trn b) (trn c) = -crs a b c := by unfold crs trn; dsimp only; grind
/-- All of one below all of the other: they don't cross. -/
theorem below_cross {a b q q' : Pt} (h1 : a.2 < q.2) (h2 : b.2 < q.2) (h3 : a.2 < q'.2) (h4 : b.2 < q'.2) : ¬ (((0 < crs a b q ∧ crs a b q' < 0) ∨ (crs a b q < 0 ∧ 0 < crs a b q')) ∧ ((0 < crs q q' a ∧ crs q q' b < 0) ∨ (crs q q' a < 0 ∧ 0 < crs q q' b))) := by
  rintro ⟨hQ, hA⟩
  obtain ⟨e1, e2⟩ := crs_h q q' a b
  generalize crs a b q = Q at *
  generalize crs a b q' = Q' at *
  generalize crs q q' a = A at *
  generalize crs q q' b = B at *
  have key : ∀ x : Int, (0 < q'.2 - q.2 → (0 < x → 0 < x * (q'.2 - q.2)) ∧ (x < 0 → x * (q'.2 - q.2) < 0)) ∧ (q'.2 - q.2 < 0 → (0 < x → x * (q'.2 - q.2) < 0) ∧ (x < 0 → 0 < x * (q'.2 - q.2))) ∧ (q'.2 - q.2 = 0 → x * (q'.2 - q.2) = 0) := fun x =>
    ⟨fun c => ⟨fun d => mulpp d c, fun d => mulnp d c⟩, fun c => ⟨fun d => mulpn d c, fun d => mulnn d c⟩, fun c => by rw [c, Int.mul_zero]⟩
  have k1 := key Q
  have k2 := key Q'
  rcases hA with ⟨p, n⟩ | ⟨n, p⟩
  · have m1 := mulnn n (show a.2 - q.2 < 0 by omega)
    have m2 := mulpn p (show b.2 - q.2 < 0 by omega)
    have m3 := mulnn n (show a.2 - q'.2 < 0 by omega)
    have m4 := mulpn p (show b.2 - q'.2 < 0 by omega)
    omega
  · have m1 := mulpn p (show a.2 - q.2 < 0 by omega)
    have m2 := mulnn n (show b.2 - q.2 < 0 by omega)
    have m3 := mulpn p (show a.2 - q'.2 < 0 by omega)
    have m4 := mulnn n (show b.2 - q'.2 < 0 by omega)
    omega
theorem kp_below {a b q q' : Pt} (h1 : a.2 < q.2) (h2 : b.2 < q.2) (h3 : a.2 < q'.2) (h4 : b.2 < q'.2) : Kp (a, b) (q, q') := by
  refine kp_of fun hb => ?_
  obtain ⟨hab, hcd, fa, fb, fc, fd⟩ := nb hb
  rw [(how_zero hb).2]
  · decide
  · rintro (h | h | h)
    · unfold Cro ori at h
      rw [if_pos ⟨fa, fb, fc⟩, if_pos ⟨fa, fb, fd⟩, if_pos ⟨fc, fd, fa⟩, if_pos ⟨fc, fd, fb⟩, against, against] at h
      exact below_cross h1 h2 h3 h4 h
    · rcases h with h | h | h | h <;> (have := congrArg Prod.snd h; omega)
    · rcases h with h | h | h | h <;> (have := h.1.2.2.2.2; unfold Btw at this; omega)
theorem kp_left {a b q q' : Pt} (h1 : a.1 < q.1) (h2 : b.1 < q.1) (h3 : a.1 < q'.1) (h4 : b.1 < q'.1) : Kp (a, b) (q, q') := by
  refine kp_of fun hb => ?_
  obtain ⟨hab, hcd, fa, fb, fc, fd⟩ := nb hb
  rw [(how_zero hb).2]
  · decide
  · rintro (h | h | h)
    · unfold Cro ori at h
      rw [if_pos ⟨fa, fb, fc⟩, if_pos ⟨fa, fb, fd⟩, if_pos ⟨fc, fd, fa⟩, if_pos ⟨fc, fd, fb⟩, against, against] at h
      refine below_cross (a := trn a) (b := trn b) (q := trn q) (q' := trn q') h1 h2 h3 h4 ?_
      rw [crs_trn, crs_trn, crs_trn, crs_trn]
      omega
    · rcases h with h | h | h | h <;> (have := congrArg Prod.fst h; omega)
    · rcases h with h | h | h | h <;> (have := h.1.2.2.2.1; unfold Btw at this; omega)
/-- From one place two ways. -/
theorem kp_fan {a b c : Pt} (h : crs a b c ≠ 0) : Kp (a, b) (a, c) := by
  refine kp_of fun hb => ?_
  obtain ⟨hab, hac, fa, fb, _, fc⟩ := nb hb
  have hbc : b ≠ c := by rintro rfl; apply h; unfold crs; grind
  have hc : ¬ Cro a b a c := by
    rintro ⟨h, _⟩
    have e : ori a b a = 0 := by
      have : crs a b a = 0 := by unfold crs; simp
      unfold ori; rw [this]; split <;> rfl
    rw [e, Int.zero_mul] at h
    omega
  have e1 : ends a b a c = 1 := by
    unfold ends
    rw [decide_eq_true (rfl : a = a), decide_eq_false hac, decide_eq_false (fun e : b = a => hab e.symm), decide_eq_false hbc]
    rfl
  have e3 : inss a b a c = 0 := by
    unfold inss
    rw [decide_eq_false (fun h : Ins a b a => h.2.1 rfl), decide_eq_false (fun x : Ins a b c => h x.1.2.2.1), decide_eq_false (fun h : Ins a c a => h.2.1 rfl), decide_eq_false (fun x : Ins a c b => h (by have := x.1.2.2.1; have := crs_sw2 a b c; omega))]
    rfl
  rw [how, if_neg hc, if_neg (by omega), if_pos e1]
  decide
def mv2 (t : Pt) (s : Sg) : Sg := (mv t s.1, mv t s.2)
theorem kp_mv {t : Pt} {s s' : Sg} (h1 : FF t s.1) (h2 : FF t s.2) (h3 : FF t s'.1) (h4 : FF t s'.2) (h : Kp s s') : Kp (mv2 t s) (mv2 t s') := by
  unfold Kp mv2 at *
  rw [segs_mv h1 h2 h3 h4]
  exact h

/-! ### a box, and what lies in it -/
def outP (a b : Int) : List Pt := [(0, 0), (a, 0), (a, b), (0, b)]
def outS (a b : Int) : List Sg := [((0, 0), (a, 0)), ((a, 0), (a, b)), ((a, b), (0, b)), ((0, b), (0, 0))]
structure Hl (a b c d : Int) : Prop where
  c : 1 ≤ c ∧ c + 6 ≤ a ∧ a ≤ 60
  d : 1 ≤ d ∧ d + 6 ≤ b ∧ b ≤ 60
def Sma (q : Pt) : Prop := 0 ≤ q.1 ∧ q.1 ≤ 4 ∧ 0 ≤ q.2 ∧ q.2 ≤ 4
instance (q : Pt) : Decidable (Sma q) := inferInstanceAs (Decidable (_ ∧ _))
section
variable {a b c d : Int} (H : Hl a b c d)
include H
theorem Hl.in {q : Pt} (h : Sma q) : (0 < (mv (c, d) q).1 ∧ (mv (c, d) q).1 < a) ∧ (0 < (mv (c, d) q).2 ∧ (mv (c, d) q).2 < b) := by
  have h1 := H.c; have h2 := H.d
  unfold Sma at h
  unfold mv
  dsimp only
  omega
theorem Hl.ff {q : Pt} (h : Sma q) : FF (c, d) q := by
  have h1 := H.c; have h2 := H.d
  unfold Sma at h
  refine ⟨?_, ?_⟩ <;> unfold Fit
  · omega
  · unfold mv; dsimp only; omega
theorem out_pw : (outS a b).Pairwise Kp := by
  have h1 := H.c; have h2 := H.d
  have ab : 0 < a * b := mulpp (by omega) (by omega)
  have c1 : crs (a, 0) (0, 0) (a, b) ≠ 0 := by unfold crs; dsimp only; simp; omega
  have c2 : crs (0, 0) (a, 0) (0, b) ≠ 0 := by unfold crs; dsimp only; simp; omega
  have c3 : crs (a, b) (a, 0) (0, b) ≠ 0 := by
    unfold crs; dsimp only
    simp; omega
  have c4 : crs (0, b) (a, b) (0, 0) ≠ 0 := by unfold crs; dsimp only; simp; omega
  unfold outS
  refine List.pairwise_cons.2 ⟨fun t ht => ?_, List.pairwise_cons.2 ⟨fun t ht => ?_, List.pairwise_cons.2 ⟨fun t ht => ?_, by simp⟩⟩⟩
  · simp only [List.mem_cons, List.not_mem_nil, or_false] at ht
    rcases ht with rfl | rfl | rfl
    · exact kp_swap (kp_fan c1)
    · exact kp_below (by dsimp only; omega) (by dsimp only; omega) (by dsimp only; omega) (by dsimp only; omega)
    · exact kp_last (kp_fan c2)
  · simp only [List.mem_cons, List.not_mem_nil, or_false] at ht
    rcases ht with rfl | rfl
    · exact kp_swap (kp_fan c3)
    · exact kp_turn (kp_left (by dsimp only; omega) (by dsimp only; omega) (by dsimp only; omega) (by dsimp only; omega))
  · simp only [List.mem_cons, List.not_mem_nil, or_false] at ht
    subst ht
    exact kp_swap (kp_fan c4)
theorem out_in {t : Sg} (h1 : (0 < t.1.1 ∧ t.1.1 < a) ∧ (0 < t.1.2 ∧ t.1.2 < b)) (h2 : (0 < t.2.1 ∧ t.2.1 < a) ∧ (0 < t.2.2 ∧ t.2.2 < b)) : ∀ s ∈ outS a b, Kp s t := by
  have h3 := H.c; have h4 := H.d
  intro s hs
  unfold outS at hs
  simp only [List.mem_cons, List.not_mem_nil, or_false] at hs
  rcases hs with rfl | rfl | rfl | rfl
  · exact kp_below (by dsimp only; omega) (by dsimp only; omega) (by dsimp only; omega) (by dsimp only; omega)
  · exact kp_turn (kp_left (by dsimp only; omega) (by dsimp only; omega) (by dsimp only; omega) (by dsimp only; omega))
  · exact kp_turn (kp_below (by dsimp only; omega) (by dsimp only; omega) (by dsimp only; omega) (by dsimp only; omega))
  · exact kp_left (by dsimp only; omega) (by dsimp only; omega) (by dsimp only; omega) (by dsimp only; omega)
/-- What lies in the box, moved to where it is. -/
theorem hole_clean {Q : List Pt} {S : List Sg} {p : Poly} (sm : Sm p) (hp : p.1 = outP a b ++ Q.map (mv (c, d))) (he : ens p = outS a b ++ S.map (mv2 (c, d)))
    (h1 : Q.Pairwise (· ≠ ·)) (hq : ∀ q ∈ Q, Sma q) (h2 : ∀ s ∈ sgs p, s.1 ≠ s.2) (h3 : S.Pairwise Kp) (hs : ∀ s ∈ S, Sma s.1 ∧ Sma s.2) (h4 : ∀ q ∈ Q, ∀ s ∈ S, ¬ Ins s.1 s.2 q) : Fine p ∧ s4 p = none := by
  have hc := H.c; have hd := H.d
  refine ⟨⟨sm, s1n.2 ?_, s2n.2 h2, s3n.2 ?_⟩, s4n.2 ?_⟩
  · rw [hp, List.pairwise_append]
    refine ⟨?_, ?_, ?_⟩
    · unfold outP
      have hne : ∀ {x y x' y' : Int}, (x ≠ x' ∨ y ≠ y') → ((x, y) : Pt) ≠ (x', y') := by
        intro x y x' y' h e
        have e1 := congrArg Prod.fst e
        have e2 := congrArg Prod.snd e
        dsimp only at e1 e2
        omega
      simp only [List.pairwise_cons, List.mem_cons, List.not_mem_nil, or_false, forall_eq_or_imp, forall_eq]
      refine ⟨⟨hne (by omega), hne (by omega), hne (by omega)⟩, ⟨hne (by omega), hne (by omega)⟩, hne (by omega), by simp⟩
    · rw [List.pairwise_map]
      exact h1.imp fun h e => h (mv_inj.1 e)
    · intro x hx y hy e
      obtain ⟨q, hq', rfl⟩ := List.mem_map.1 hy
      have hin := H.in (hq q hq')
      rw [← e] at hin
      unfold outP at hx
      simp only [List.mem_cons, List.not_mem_nil, or_false] at hx
      rcases hx with rfl | rfl | rfl | rfl <;> (dsimp only at hin; omega)
  · have : (ens p).Pairwise Kp := by
      rw [he, List.pairwise_append]
      refine ⟨out_pw H, ?_, fun s hs' t ht => ?_⟩
      · rw [List.pairwise_map]
        refine h3.imp_of_mem fun {s t} hs1 ht1 hk => ?_
        exact kp_mv (H.ff (hs s hs1).1) (H.ff (hs s hs1).2) (H.ff (hs t ht1).1) (H.ff (hs t ht1).2) hk
      · obtain ⟨u, hu, rfl⟩ := List.mem_map.1 ht
        exact out_in H (H.in (hs u hu).1) (H.in (hs u hu).2) s hs'
    unfold ens at this
    rw [List.pairwise_map] at this
    exact this
  · intro q hq' s hs' hi
    have hem : en p.1 s ∈ ens p := List.mem_map.2 ⟨s, hs', rfl⟩
    revert hi
    generalize en p.1 s = e at hem
    rw [he] at hem
    rw [hp] at hq'
    intro hi
    have b1 := hi.1.2.2.2.1
    have b2 := hi.1.2.2.2.2
    have n1 := hi.2.1
    have n2 := hi.2.2
    have out : ∀ x ∈ outP a b, (x.1 = 0 ∨ x.1 = a) ∧ (x.2 = 0 ∨ x.2 = b) := by
      intro x hx
      unfold outP at hx
      simp only [List.mem_cons, List.not_mem_nil, or_false] at hx
      rcases hx with rfl | rfl | rfl | rfl <;> (dsimp only; omega)
    have heq : ∀ {x y : Pt}, x.1 = y.1 → x.2 = y.2 → x = y := fun h1 h2 => Prod.ext h1 h2
    rcases List.mem_append.1 hem with ho | hin
    · unfold outS at ho
      simp only [List.mem_cons, List.not_mem_nil, or_false] at ho
      rcases List.mem_append.1 hq' with hq' | hq'
      · have hx := out q hq'
        have m1 : ¬ (q.1 = e.1.1 ∧ q.2 = e.1.2) := fun h => n1 (heq h.1 h.2)
        have m2 : ¬ (q.1 = e.2.1 ∧ q.2 = e.2.2) := fun h => n2 (heq h.1 h.2)
        unfold Btw at b1 b2
        rcases ho with rfl | rfl | rfl | rfl <;> (dsimp only at b1 b2 m1 m2; omega)
      · obtain ⟨x, hx, rfl⟩ := List.mem_map.1 hq'
        have hin := H.in (hq x hx)
        unfold Btw at b1 b2
        rcases ho with rfl | rfl | rfl | rfl <;> (dsimp only at b1 b2; omega)
    · obtain ⟨t, ht, rfl⟩ := List.mem_map.1 hin
      have i1 := H.in (hs t ht).1
      have i2 := H.in (hs t ht).2
      rcases List.mem_append.1 hq' with hq' | hq'
      · have hx := out q hq'
        unfold Btw mv2 at b1 b2
        dsimp only at b1 b2
        omega
      · obtain ⟨x, hx, rfl⟩ := List.mem_map.1 hq'
        unfold mv2 at hi
        exact h4 x hx t ht ((ins_mv (H.ff (hs t ht).1) (H.ff (hs t ht).2) (H.ff (hq x hx))).1 hi)
end
end Go.Proofs.Ytjbimhfhapnjeaa.Pure
end
/- The box with a hole: what is told of it. -/
section
set_option linter.unusedVariables false
set_option linter.unusedSimpArgs false
set_option linter.unusedSectionVars false
namespace Go.Proofs.Ytjbimhfhapnjeaa.Pure
open Go.RowKit Go.Proofs.Ytjbimhfhapnjeaa.AM PL

def q4 : List Pt := [(0, 0), (4, 0), (4, 4), (0, 4)]
def bxL : List Pt := [(0, 1), (1, 2), (2, 3), (3, 0), (4, 5), (5, 6), (6, 7), (7, 4)]
def inS : List Sg := [((0, 0), (4, 0)), ((4, 0), (4, 4)), ((4, 4), (0, 4)), ((0, 4), (0, 0))]
def hl (a b c d : Int) (E M I : List Pt) : Poly := (outP a b ++ (q4 ++ E).map (mv (c, d)), bxL ++ M, I)
def tri : List Pt := [(1, 1), (3, 1), (3, 3)]
def triL : List Pt := [(8, 9), (9, 10), (10, 8)]
def triS : List Sg := [((1, 1), (3, 1)), ((3, 1), (3, 3)), ((3, 3), (1, 1))]
theorem par_app (A B : List Sg) (q : Pt) : par (A ++ B) q = xor (par A q) (par B q) := by
  induction A with
  | nil => simp [par]
  | cons s A ih => rw [List.cons_append, par_cons, par_cons, ih, Bool.xor_assoc]
theorem rim_app (A B : List Sg) (q : Pt) : rim (A ++ B) q = (rim A q || rim B q) := by unfold rim; rw [List.any_append]
theorem par_mv (t q : Pt) : ∀ L : List Sg, par (L.map (mv2 t)) (mv t q) = par L q
  | [] => rfl
  | s :: L => by
    rw [List.map_cons, par_cons, par_cons, par_mv t q L]
    unfold mv2
    rw [decide_eq_decide.2 (rgt_mv (t := t) (a := s.1) (b := s.2) (q := q))]
/-- Of a box's four: in it one is to the right. -/
theorem out_par {a b : Int} {q : Pt} (h : (0 < q.1 ∧ q.1 < a) ∧ (0 < q.2 ∧ q.2 < b)) : par (outS a b) q = true := by
  unfold outS
  rw [par_cons, par_cons, par_cons, par_cons]
  dsimp only
  have n1 : ¬ Rgt (0, 0) (a, 0) q := by unfold Rgt; dsimp only; omega
  have n3 : ¬ Rgt (a, b) (0, b) q := by unfold Rgt; dsimp only; omega
  have e4 : crs (0, b) (0, 0) q = b * q.1 := by unfold crs; dsimp only; grind
  have e2 : crs (a, 0) (a, b) q = b * (a - q.1) := by unfold crs; dsimp only; grind
  have p4 : 0 < b * q.1 := mulpp (by omega) h.1.1
  have p2 : 0 < b * (a - q.1) := mulpp (by omega) (by omega)
  have n4 : ¬ Rgt (0, b) (0, 0) q := by unfold Rgt; rw [e4]; dsimp only; omega
  have y2 : Rgt (a, 0) (a, b) q := by unfold Rgt; rw [e2]; dsimp only; omega
  rw [decide_eq_false n1, decide_eq_false n3, decide_eq_false n4, decide_eq_true y2]
  rfl
theorem out_rim {a b : Int} {q : Pt} (h : (0 < q.1 ∧ q.1 < a) ∧ (0 < q.2 ∧ q.2 < b)) : rim (outS a b) q = false := by
  unfold rim
  rw [List.any_eq_false]
  intro s hs
  rw [decide_eq_true_eq]
  intro ho
  have b1 := ho.2.2.2.1
  have b2 := ho.2.2.2.2
  unfold Btw at b1 b2
  unfold outS at hs
  simp only [List.mem_cons, List.not_mem_nil, or_false] at hs
  rcases hs with rfl | rfl | rfl | rfl <;> (dsimp only at b1 b2; omega)
theorem over_par {L : List Sg} {q : Pt} (h : ∀ s ∈ L, q.2 < s.1.2 ∧ q.2 < s.2.2) : par L q = false ∧ rim L q = false := by
  constructor
  · induction L with
    | nil => rfl
    | cons s L ih =>
      rw [par_cons, ih (fun t ht => h t (List.mem_cons_of_mem _ ht)), decide_eq_false]
      · rfl
      · have := h s List.mem_cons_self
        unfold Rgt; omega
  · unfold rim
    rw [List.any_eq_false]
    intro s hs
    rw [decide_eq_true_eq]
    intro ho
    have b2 := ho.2.2.2.2
    have := h s hs
    unfold Btw at b2
    omega
theorem Fine.okl2 {p : Poly} (h : Fine p) : Pure.okl p.1 2 p.2.1 = true := by
  unfold Pure.okl
  rw [List.all_eq_true]
  intro s hs
  have hb := noBad h.sm h.n1 h.n2 s (List.mem_append_left _ hs)
  have hok := h.okL s hs
  have f1 := h.sm.fit hok.1.1
  have f2 := h.sm.fit hok.1.2
  have key : ∀ q, Pure.okq q → Fit (sc 2 q) := by
    intro q hq
    unfold Pure.okq at hq
    unfold Fit sc
    dsimp only
    omega
  exact decide_eq_true ⟨hok.1, fun e => hb (.inr e), ⟨f1, f2⟩, key _ (h.sm.q _ (pt_mem hok.1.1)), key _ (h.sm.q _ (pt_mem hok.1.2))⟩
theorem outs11 : (outs (bxL ++ triL) 11 11).length = 3 := by decide +kernel
section
variable {a b c d : Int} (H : Hl a b c d)
include H
theorem hl_sm {E M I : List Pt} (hE : ∀ q ∈ E, Sma q) (h1 : E.length ≤ 10) (h2 : M.length ≤ 10) (h3 : I.length ≤ 10) (hM : ∀ s ∈ bxL ++ M, oks (8 + E.length) s) (hI : ∀ s ∈ I, oks (8 + E.length) s) : Sm (hl a b c d E M I) := by
  have hc := H.c; have hd := H.d
  have hlen : (hl a b c d E M I).1.length = 8 + E.length := by unfold hl outP q4; simp; omega
  have hlen2 : (hl a b c d E M I).2.1.length = 8 + M.length := by unfold hl bxL; simp; omega
  refine Lt.mk' (fun q hq => ?_) (fun s hs => by rw [hlen]; exact hM s hs) (fun s hs => by rw [hlen]; exact hI s hs) (by omega) (by omega) (by show I.length ≤ 120; omega)
  unfold hl at hq
  dsimp only at hq
  rcases List.mem_append.1 hq with hq | hq
  · unfold outP at hq
    simp only [List.mem_cons, List.not_mem_nil, or_false] at hq
    rcases hq with rfl | rfl | rfl | rfl <;> (unfold okq; dsimp only; omega)
  · obtain ⟨x, hx, rfl⟩ := List.mem_map.1 hq
    have hsx : Sma x := by
      rcases List.mem_append.1 hx with hx | hx
      · have key : ∀ x ∈ q4, Sma x := by decide
        exact key x hx
      · exact hE x hx
    unfold Sma at hsx
    unfold okq mv
    dsimp only
    omega
theorem p_fine : Fine (hl a b c d [] [] []) ∧ s4 (hl a b c d [] [] []) = none := by
  refine hole_clean H (Q := q4 ++ []) (S := inS) (hl_sm H (by decide) (by decide) (by decide) (by decide) (by decide) (by decide)) rfl rfl (by decide) (by decide) (by show ∀ s ∈ bxL ++ [] ++ ([] : List Pt), s.1 ≠ s.2; decide) (by decide +kernel) (by decide) (by decide +kernel)
theorem in_fine : Fine (hl a b c d [(2, 2)] [] []) ∧ s4 (hl a b c d [(2, 2)] [] []) = none := by
  refine hole_clean H (Q := q4 ++ [(2, 2)]) (S := inS) (hl_sm H (by decide) (by decide) (by decide) (by decide) (by decide) (by decide)) rfl rfl (by decide) (by decide) (by show ∀ s ∈ bxL ++ [] ++ ([] : List Pt), s.1 ≠ s.2; decide) (by decide +kernel) (by decide) (by decide +kernel)
theorem two_fine : Fine (hl a b c d tri triL []) ∧ s4 (hl a b c d tri triL []) = none := by
  refine hole_clean H (Q := q4 ++ tri) (S := inS ++ triS) (hl_sm H (by decide) (by decide) (by decide) (by decide) (by decide) (by decide)) rfl rfl (by decide) (by decide) (by show ∀ s ∈ bxL ++ triL ++ ([] : List Pt), s.1 ≠ s.2; decide) (by decide +kernel) (by decide) (by decide +kernel)
theorem side_fine : Fine (hl a b c d [] [] [(4, 6)]) ∧ s4 (hl a b c d [] [] [(4, 6)]) = none := by
  refine hole_clean H (Q := q4 ++ []) (S := inS ++ [((0, 0), (4, 4))]) (hl_sm H (by decide) (by decide) (by decide) (by decide) (by decide) (by decide)) rfl rfl (by decide) (by decide) (by show ∀ s ∈ bxL ++ [] ++ ([(4, 6)] : List Pt), s.1 ≠ s.2; decide) (by decide +kernel) (by decide) (by decide +kernel)
omit H
theorem hl_map {E I : List Pt} : (hl a b c d E [] I).2.1.map (sgm (hl a b c d E [] I).1 1) = outS a b ++ inS.map (mv2 (c, d)) := by
  have : (hl a b c d E [] I).2.1.map (sgm (hl a b c d E [] I).1 1) = (hl a b c d E [] I).2.1.map (en (hl a b c d E [] I).1) := List.map_congr_left fun s _ => by
    unfold sgm en; rw [sc_one, sc_one]
  rw [this]; rfl
include H
theorem mid_par {E I : List Pt} : par ((hl a b c d E [] I).2.1.map (sgm (hl a b c d E [] I).1 1)) (mv (c, d) (2, 2)) = false := by
  rw [hl_map, par_app, par_mv, out_par (H.in (by decide)), show par inS (2, 2) = true from by decide +kernel]; rfl
theorem not_one {L : List Sg} {q : Pt} (h : par L q = false) : whr L q ≠ 1 := by
  unfold whr
  rw [h]
  split
  · decide
  · decide
theorem p_right : Right (hl a b c d [] [] []) := by
  obtain ⟨F, h4⟩ := p_fine H
  exact ⟨F, h4, by show row (odd bxL) 8 0 0 = none; decide +kernel, by show ¬ (8 : Nat) = 0; decide, s7n.2 fun s hs => (by cases hs), s8n.2 fun v hv hd => absurd hd (by
    have key : ∀ v : Nat, v < 8 → dgr (bxL ++ [] ++ []) (v : Int) ≠ 0 := by decide +kernel
    exact key v hv)⟩
theorem two_right : Right (hl a b c d tri triL []) := by
  obtain ⟨F, h4⟩ := two_fine H
  exact ⟨F, h4, by show row (odd (bxL ++ triL)) 11 0 0 = none; decide +kernel, by show ¬ (11 : Nat) = 0; decide, s7n.2 fun s hs => (by cases hs), s8n.2 fun v hv hd => absurd hd (by
    have key : ∀ v : Nat, v < 11 → dgr (bxL ++ triL ++ []) (v : Int) ≠ 0 := by decide +kernel
    exact key v hv)⟩
theorem in_flaw : flaw (hl a b c d [(2, 2)] [] []) = (8, 8, 0) := by
  obtain ⟨F, h4⟩ := in_fine H
  have h5 : s5 (hl a b c d [(2, 2)] [] []) = none := by show row (odd bxL) 9 0 0 = none; decide +kernel
  have h7 : s7 (hl a b c d [(2, 2)] [] []) = none := s7n.2 fun s hs => (by cases hs)
  have h8 : s8 (hl a b c d [(2, 2)] [] []) = some 8 := by
    obtain ⟨r1, r2⟩ := row_spec (strb (hl a b c d [(2, 2)] [] [])) (n := 9) (a := 0) _ 0 rfl (Nat.zero_le _)
    have hd8 : ∀ v : Nat, v < 9 → dgr (bxL ++ [] ++ []) (v : Int) = 0 → v = 8 := by decide +kernel
    have htrue : strb (hl a b c d [(2, 2)] [] []) 0 8 = true := by
      unfold strb
      have e1 : dgr (sgs (hl a b c d [(2, 2)] [] [])) ((8 : Nat) : Int) = 0 := by show dgr (bxL ++ [] ++ []) 8 = 0; decide +kernel
      have e2 : ¬ (atv (hl a b c d [(2, 2)] [] []).1 (hl a b c d [(2, 2)] [] []).2.1 1 (pt (hl a b c d [(2, 2)] [] []).1 ((8 : Nat) : Int))).1 = 1 := by
        rw [show pt (hl a b c d [(2, 2)] [] []).1 ((8 : Nat) : Int) = mv (c, d) (2, 2) from rfl]
        unfold atv
        split
        · exact not_one H (mid_par H)
        · decide
      rw [decide_eq_true e1, decide_eq_false e2]; rfl
    show row (strb (hl a b c d [(2, 2)] [] [])) 9 0 0 = some 8
    cases hr : row (strb (hl a b c d [(2, 2)] [] [])) 9 0 0 with
    | none => have := r1 hr 8 (by omega) (by omega); rw [htrue] at this; cases this
    | some k =>
      obtain ⟨_, g2, g3, _⟩ := r2 k hr
      unfold strb at g3
      have := hd8 k g2 (by
        have := (Bool.and_eq_true _ _).mp g3
        exact of_decide_eq_true this.1)
      rw [this]
  unfold flaw rest six
  rw [F.n1, F.n2, F.n3, h4, h5, h7, h8, if_neg (by show ¬ (8 : Nat) = 0; decide)]
  rfl
theorem side_flaw : flaw (hl a b c d [] [] [(4, 6)]) = (7, 0, 0) := by
  obtain ⟨F, h4⟩ := side_fine H
  have h5 : s5 (hl a b c d [] [] [(4, 6)]) = none := by show row (odd bxL) 8 0 0 = none; decide +kernel
  have h7 : s7 (hl a b c d [] [] [(4, 6)]) = some 0 := by
    have htrue : outb (hl a b c d [] [] [(4, 6)]) 0 0 = true := by
      unfold outb
      have e2 : ¬ (midv (hl a b c d [] [] [(4, 6)]).1 (hl a b c d [] [] [(4, 6)]).2.1 [(pt (hl a b c d [] [] [(4, 6)]).2.2 ((0 : Nat) : Int)).1, (pt (hl a b c d [] [] [(4, 6)]).2.2 ((0 : Nat) : Int)).2]).1 = 1 := by
        rw [show (pt (hl a b c d [] [] [(4, 6)]).2.2 ((0 : Nat) : Int)).1 = 4 from rfl, show (pt (hl a b c d [] [] [(4, 6)]).2.2 ((0 : Nat) : Int)).2 = 6 from rfl]
        unfold midv
        split
        · rw [show (([4, 6] : List Int).length : Int) = 2 from rfl]
          unfold atv
          split
          · refine not_one H ?_
            have e : sumP (hl a b c d [] [] [(4, 6)]).1 (0, 0) [4, 6] = sc 2 (mv (c, d) (2, 2)) := by
              show ((0 + (0 + c)) + (4 + c), (0 + (0 + d)) + (4 + d)) = sc 2 (mv (c, d) (2, 2))
              unfold sc mv
              refine Prod.ext ?_ ?_ <;> dsimp only <;> omega
            rw [e, par_sc2]
            exact mid_par H
          · decide
        · decide
      rw [decide_eq_false e2]; rfl
    show row (outb (hl a b c d [] [] [(4, 6)])) 1 0 0 = some 0
    rw [row_step _ (by omega), htrue]; rfl
  unfold flaw rest six
  rw [F.n1, F.n2, F.n3, h4, h5, h7, if_neg (by show ¬ (8 : Nat) = 0; decide)]
  rfl
omit H
theorem isl_off (p : Poly) (a b : Int) : ∀ (l : List Pt) (i : Nat), (∀ s ∈ l, ¬ (s = (a, b) ∨ s = (b, a)) ∧ Kp (pt p.1 a, pt p.1 b) (en p.1 s)) → isl p a b i l = mid1 p a b
  | [], i, _ => rfl
  | s :: l, i, h => by
    have hs := h s List.mem_cons_self
    have h2 : ¬ (segs (pt p.1 a) (pt p.1 b) (pt p.1 s.1) (pt p.1 s.2)).1 > 1 := hs.2
    rw [isl, if_neg hs.1, if_neg h2]
    exact isl_off p a b l (i + 1) fun t ht => h t (List.mem_cons_of_mem _ ht)
include H
theorem across : insv (hl a b c d [] [] []) 0 4 = true := by
  have hc := H.c; have hd := H.d
  have R := p_right H
  have F := R.fine
  unfold insv
  rw [show good0 (hl a b c d [] [] []) = true from decide_eq_true (by rw [R.good]; rfl), Bool.true_and]
  rw [show may (hl a b c d [] [] []) 0 4 = true from by show decide (inr 0 8 ∧ inr 4 8 ∧ (0 : Int) ≠ 4) = true; decide, Bool.true_and]
  have p0 : pt (hl a b c d [] [] []).1 0 = (0, 0) := rfl
  have p4 : pt (hl a b c d [] [] []).1 4 = mv (c, d) (0, 0) := rfl
  have hno : noIns (hl a b c d [] [] []) 0 4 = true := by
    unfold noIns
    rw [List.all_eq_true]
    intro q hq
    rw [p0, p4, Bool.not_eq_true', decide_eq_false_iff_not]
    intro hi
    have b1 := hi.1.2.2.2.1
    have b2 := hi.1.2.2.2.2
    have n1 := hi.2.1
    have n2 := hi.2.2
    unfold Btw mv at b1 b2
    unfold hl at hq
    dsimp only at hq
    rcases List.mem_append.1 hq with hq | hq
    · unfold outP at hq
      simp only [List.mem_cons, List.not_mem_nil, or_false] at hq
      rcases hq with rfl | rfl | rfl | rfl
      · exact n1 rfl
      · dsimp only at b1 b2; omega
      · dsimp only at b1 b2; omega
      · dsimp only at b1 b2; omega
    · obtain ⟨x, hx, rfl⟩ := List.mem_map.1 hq
      unfold q4 at hx
      simp only [List.mem_cons, List.not_mem_nil, or_false, List.append_nil] at hx
      rcases hx with rfl | rfl | rfl | rfl
      · exact n2 rfl
      · unfold mv at b1 b2; dsimp only at b1 b2; omega
      · unfold mv at b1 b2; dsimp only at b1 b2; omega
      · unfold mv at b1 b2; dsimp only at b1 b2; omega
  rw [hno, Bool.true_and, isl_off]
  · unfold mid1 midv
    have e : sumP (hl a b c d [] [] []).1 (0, 0) [0, 4] = (c, d) := by
      show ((0 + 0) + (0 + c), (0 + 0) + (0 + d)) = (c, d)
      refine Prod.ext ?_ ?_ <;> dsimp only <;> omega
    have ok1 : OkI (hl a b c d [] [] []).1 0 := ⟨by show inr 0 8; decide, F.sm.fit (by show inr 0 8; decide)⟩
    have ok2 : OkI (hl a b c d [] [] []).1 4 := ⟨by show inr 4 8; decide, F.sm.fit (by show inr 4 8; decide)⟩
    rw [if_pos (by unfold oki; rw [List.all_cons, List.all_cons, List.all_nil, decide_eq_true ok1, decide_eq_true ok2]; rfl), e]
    rw [show (([0, 4] : List Int).length : Int) = 2 from rfl]
    unfold atv
    rw [if_pos ⟨F.okl2, by unfold Fit; dsimp only; omega⟩]
    have em : (hl a b c d [] [] []).2.1.map (sgm (hl a b c d [] [] []).1 2) = outS (2 * a) (2 * b) ++ (inS.map (mv2 (c, d))).map (fun s => (sc 2 s.1, sc 2 s.2)) := rfl
    have hin : ((0 : Int) < ((c, d) : Pt).1 ∧ ((c, d) : Pt).1 < 2 * a) ∧ (0 < ((c, d) : Pt).2 ∧ ((c, d) : Pt).2 < 2 * b) := by dsimp only; omega
    have hov : ∀ s ∈ (inS.map (mv2 (c, d))).map (fun s => (sc 2 s.1, sc 2 s.2)), ((c, d) : Pt).2 < s.1.2 ∧ ((c, d) : Pt).2 < s.2.2 := by
      intro s hs
      rw [List.map_map] at hs
      obtain ⟨x, hx, rfl⟩ := List.mem_map.1 hs
      have hx' : Sma x.1 ∧ Sma x.2 := by
        have key : ∀ x ∈ inS, Sma x.1 ∧ Sma x.2 := by decide
        exact key x hx
      unfold Sma at hx'
      unfold Function.comp mv2 sc mv
      dsimp only
      omega
    obtain ⟨o1, o2⟩ := over_par hov
    dsimp only
    unfold whr
    rw [em, rim_app, out_rim hin, o2, par_app, out_par hin, o1]
    rfl
  · intro s hs
    refine ⟨?_, ?_⟩
    · have key : ∀ s ∈ bxL ++ [] ++ ([] : List Pt), ¬ (s = (0, 4) ∨ s = (4, 0)) := by decide
      exact key s hs
    · have hem : en (hl a b c d [] [] []).1 s ∈ ens (hl a b c d [] [] []) := List.mem_map.2 ⟨s, hs, rfl⟩
      rw [p0, p4]
      generalize en (hl a b c d [] [] []).1 s = e at hem
      rw [show ens (hl a b c d [] [] []) = outS a b ++ inS.map (mv2 (c, d)) from rfl] at hem
      have cb : 0 < c * b := mulpp (by omega) (by omega)
      have da : 0 < d * a := mulpp (by omega) (by omega)
      rcases List.mem_append.1 hem with hem | hem
      · unfold outS at hem
        simp only [List.mem_cons, List.not_mem_nil, or_false] at hem
        rcases hem with rfl | rfl | rfl | rfl
        · refine kp_fan ?_
          have : crs (0, 0) (mv (c, d) (0, 0)) (a, 0) = -(d * a) := by unfold crs mv; dsimp only; grind
          omega
        · exact kp_left (by dsimp only; omega) (by unfold mv; dsimp only; omega) (by dsimp only; omega) (by unfold mv; dsimp only; omega)
        · exact kp_below (by dsimp only; omega) (by unfold mv; dsimp only; omega) (by dsimp only; omega) (by unfold mv; dsimp only; omega)
        · refine kp_last (kp_fan ?_)
          have : crs (0, 0) (mv (c, d) (0, 0)) (0, b) = c * b := by unfold crs mv; dsimp only; grind
          omega
      · obtain ⟨x, hx, rfl⟩ := List.mem_map.1 hem
        unfold inS at hx
        simp only [List.mem_cons, List.not_mem_nil, or_false] at hx
        unfold mv2
        rcases hx with rfl | rfl | rfl | rfl
        · refine kp_swap (kp_fan ?_)
          have : crs (mv (c, d) (0, 0)) (0, 0) (mv (c, d) (4, 0)) = 4 * d := by unfold crs mv; dsimp only; grind
          show crs (mv (c, d) (0, 0)) (0, 0) (mv (c, d) (4, 0)) ≠ 0
          omega
        · exact kp_left (by unfold mv; dsimp only; omega) (by unfold mv; dsimp only; omega) (by unfold mv; dsimp only; omega) (by unfold mv; dsimp only; omega)
        · exact kp_below (by unfold mv; dsimp only; omega) (by unfold mv; dsimp only; omega) (by unfold mv; dsimp only; omega) (by unfold mv; dsimp only; omega)
        · refine kp_last (kp_swap (kp_fan ?_))
          have : crs (mv (c, d) (0, 0)) (0, 0) (mv (c, d) (0, 4)) = -(4 * c) := by unfold crs mv; dsimp only; grind
          show crs (mv (c, d) (0, 0)) (0, 0) (mv (c, d) (0, 4)) ≠ 0
          omega
theorem two_loops : (loopsv (hl a b c d tri triL [])).1.length = 3 := by
  have R := two_right H
  have e1 : (hl a b c d tri triL []).1.length = 11 := rfl
  have e2 : (hl a b c d tri triL []).2.1 = bxL ++ triL := rfl
  unfold loopsv
  rw [if_pos (show good0 (hl a b c d tri triL []) = true from decide_eq_true (by rw [R.good]; rfl)), e1, e2]
  dsimp only
  exact outs11
end
end Go.Proofs.Ytjbimhfhapnjeaa.Pure
end
