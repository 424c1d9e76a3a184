/- Mirrored or turned, an input has the flaw that it had. -/
import Derived.Test.YtjbimhfhapnjeaaV23
section
set_option linter.unusedVariables false
set_option linter.unusedSimpArgs false
set_option linter.unusedSectionVars false
namespace Go.Proofs.Ytjbimhfhapnjeaa.Pure
open Go.RowKit Go.Proofs.Ytjbimhfhapnjeaa.AM PL

/-- Places put elsewhere, by a mirror. -/
structure Iso (T : Pt → Pt) : Prop where
  inj : ∀ a b, T a = T b ↔ a = b
  fit : ∀ a, Fit (T a) ↔ Fit a
  ok : ∀ a, okq (T a) ↔ okq a
  crs : ∀ a b c, crs (T a) (T b) (T c) = -crs a b c
  btw : ∀ a b c, (Btw (T a).1 (T b).1 (T c).1 ∧ Btw (T a).2 (T b).2 (T c).2) ↔ (Btw a.1 b.1 c.1 ∧ Btw a.2 b.2 c.2)
  sc : ∀ g a, T (sc g a) = sc g (T a)
  add : ∀ a b, T (add a b) = add (T a) (T b)
  mark : ∀ q, ∃ F : Pt → Bool, ∀ a b, ¬ (Pure.crs a b q = 0 ∧ Btw a.1 b.1 q.1 ∧ Btw a.2 b.2 q.2) → xor (decide (Rgt (T a) (T b) (T q))) (decide (Rgt a b q)) = xor (F a) (F b)
def tp (T : Pt → Pt) (p : Poly) : Poly := (p.1.map T, p.2.1, p.2.2)
theorem pt_map {P : List Pt} (T : Pt → Pt) {i : Int} (h : inr i P.length) : pt (P.map T) i = T (pt P i) := by
  obtain ⟨j, rfl⟩ := Int.eq_ofNat_of_zero_le h.1
  have h2 := h.2
  rw [pt_nat (by rw [List.length_map]; omega), pt_nat (by omega), List.getElem_map]
theorem sumP_add (P : List Pt) (a b : Int) : sumP P (0, 0) [a, b] = add (pt P a) (pt P b) := by
  show ((0 + (pt P a).1 + (pt P b).1, 0 + (pt P a).2 + (pt P b).2) : Pt) = _
  unfold add
  refine Prod.ext ?_ ?_ <;> dsimp only <;> omega
section
variable {T : Pt → Pt} (I : Iso T)
include I
theorem on_iso {a b p : Pt} : On (T a) (T b) (T p) ↔ On a b p := by
  unfold On
  rw [I.crs, ne_eq, ne_eq, I.inj, I.fit, I.fit, I.fit, I.btw]
  exact ⟨fun h => ⟨h.1, h.2.1, by have := h.2.2.1; omega, h.2.2.2⟩, fun h => ⟨h.1, h.2.1, by have := h.2.2.1; omega, h.2.2.2⟩⟩
theorem ins_iso {a b p : Pt} : Ins (T a) (T b) (T p) ↔ Ins a b p := by
  unfold Ins
  rw [on_iso I, ne_eq, ne_eq, I.inj, I.inj]
theorem ori_iso {a b p : Pt} : ori (T a) (T b) (T p) = -ori a b p := by
  have hs : ∀ x : Int, sg (-x) = -sg x := fun x => by unfold sg; (repeat' split) <;> omega
  unfold ori
  by_cases h : Fit a ∧ Fit b ∧ Fit p
  · rw [if_pos h, if_pos ⟨(I.fit a).2 h.1, (I.fit b).2 h.2.1, (I.fit p).2 h.2.2⟩, I.crs, hs]
  · rw [if_neg h, if_neg (fun x => h ⟨(I.fit a).1 x.1, (I.fit b).1 x.2.1, (I.fit p).1 x.2.2⟩)]; rfl
theorem segs_iso {a b c d : Pt} : segs (T a) (T b) (T c) (T d) = segs a b c d := by
  have hbad : Bad (T a) (T b) (T c) (T d) ↔ Bad a b c d := by
    unfold Bad
    rw [I.inj, I.inj, I.fit, I.fit, I.fit, I.fit]
  have hcro : Cro (T a) (T b) (T c) (T d) ↔ Cro a b c d := by
    unfold Cro
    rw [ori_iso I, ori_iso I, ori_iso I, ori_iso I, Int.neg_mul_neg, Int.neg_mul_neg]
  have hends : ends (T a) (T b) (T c) (T d) = ends a b c d := by
    unfold ends
    rw [decide_eq_decide.2 (I.inj a c), decide_eq_decide.2 (I.inj a d), decide_eq_decide.2 (I.inj b c), decide_eq_decide.2 (I.inj b d)]
  have hinss : inss (T a) (T b) (T c) (T d) = inss a b c d := by
    unfold inss
    rw [decide_eq_decide.2 (ins_iso I (a := a) (b := b) (p := c)), decide_eq_decide.2 (ins_iso I (a := a) (b := b) (p := d)), decide_eq_decide.2 (ins_iso I (a := c) (b := d) (p := a)), decide_eq_decide.2 (ins_iso I (a := c) (b := d) (p := b))]
  have hhow : how (T a) (T b) (T c) (T d) = how a b c d := by
    unfold how
    rw [hends, hinss]
    by_cases h : Cro a b c d
    · rw [if_pos h, if_pos (hcro.2 h)]
    · rw [if_neg h, if_neg (fun x => h (hcro.1 x))]
  unfold segs
  rw [hhow]
  by_cases h : Bad a b c d
  · rw [if_pos h, if_pos (hbad.2 h)]
  · rw [if_neg h, if_neg (fun x => h (hbad.1 x))]
omit I in
theorem tp_len (T : Pt → Pt) (p : Poly) : (tp T p).1.length = p.1.length := by unfold tp; simp
theorem tp_sm {p : Poly} (sm : Sm p) : Sm (tp T p) := by
  refine ⟨chk_iff.2 ⟨?_, ?_, ?_, ?_⟩, by rw [tp_len]; exact sm.P, sm.L, sm.I⟩
  · have := (chk_iff.1 sm.chk).1
    unfold few3 at *
    rw [tp_len]
    exact this
  · intro q hq
    obtain ⟨x, hx, rfl⟩ := List.mem_map.1 hq
    exact (I.ok x).2 (sm.q x hx)
  · intro s hs; rw [tp_len]; exact sm.sl s hs
  · intro s hs; rw [tp_len]; exact sm.si s hs
omit I in
theorem tp_en {p : Poly} {s : Pt} (h : oks p.1.length s) : en (tp T p).1 s = (T (en p.1 s).1, T (en p.1 s).2) := by
  unfold en tp
  dsimp only
  rw [pt_map T h.1, pt_map T h.2]
theorem tp_s1 (p : Poly) : s1 (tp T p) = s1 p := by
  unfold s1
  rw [tp_len]
  refine srch_congr (fun i k hi hk => ?_) _ 0 rfl (Nat.zero_le _)
  unfold alk tp
  dsimp only
  rw [pt_map T ⟨by omega, by omega⟩, pt_map T ⟨by omega, by omega⟩, decide_eq_decide]
  exact I.inj _ _
theorem tp_s3 {p : Poly} (sm : Sm p) : s3 (tp T p) = s3 p := by
  unfold s3
  rw [ens_len, ens_len, show sgs (tp T p) = sgs p from rfl]
  refine srch_congr (fun i k hi hk => ?_) _ 0 rfl (Nat.zero_le _)
  unfold crossing
  rw [sat_ens (tp T p) hi, sat_ens (tp T p) hk, sat_ens p hi, sat_ens p hk, show sgs (tp T p) = sgs p from rfl, tp_en (sm.at hi), tp_en (sm.at hk)]
  exact congrArg (fun x : Int × Int => decide (x.1 > 1)) (segs_iso I)
theorem tp_s4 {p : Poly} (sm : Sm p) : s4 (tp T p) = s4 p := by
  unfold s4
  rw [tp_len, show sgs (tp T p) = sgs p from rfl]
  refine rct_congr (fun i k hi hk => ?_) _ 0 rfl (Nat.zero_le _)
  unfold insd
  rw [show sgs (tp T p) = sgs p from rfl, tp_en (sm.at hk), decide_eq_decide]
  show Ins (T _) (T _) (pt (p.1.map T) (i : Int)) ↔ _
  rw [pt_map T ⟨by omega, by omega⟩]
  exact ins_iso I
theorem okl_iso {P L : List Pt} (g : Int) (hL : ∀ s ∈ L, oks P.length s) : okl (P.map T) g L = okl P g L := by
  unfold okl
  rw [Bool.eq_iff_iff, List.all_eq_true, List.all_eq_true]
  refine forall₂_congr fun s hs => ?_
  rw [decide_eq_true_eq, decide_eq_true_eq]
  have hok := hL s hs
  unfold OkS
  rw [List.length_map, pt_map T hok.1, pt_map T hok.2, ← I.sc, ← I.sc, I.fit, I.fit, I.fit, I.fit, ne_eq, I.inj]
theorem atv_iso {P L : List Pt} (lp : Lp P.length L) {g : Int} (hg : g = 1 ∨ g = 2) (q : Pt) : atv (P.map T) L g (T q) = atv P L g q := by
  have hL := fun s hs => (lp.ok s hs).1
  unfold atv
  rw [okl_iso I g hL]
  by_cases h : okl P g L = true ∧ Fit q
  · rw [if_pos h, if_pos ⟨h.1, (I.fit q).2 h.2⟩]
    have hm : ∀ s ∈ L, sgm (P.map T) g s = (T (sc g (pt P s.1)), T (sc g (pt P s.2))) := fun s hs => by
      have := hL s hs
      unfold sgm
      rw [pt_map T this.1, pt_map T this.2, I.sc, I.sc]
    have hrim : rim (L.map (sgm (P.map T) g)) (T q) = rim (L.map (sgm P g)) q := by
      unfold rim
      rw [List.any_map, List.any_map]
      rw [Bool.eq_iff_iff, List.any_eq_true, List.any_eq_true]
      constructor
      · rintro ⟨s, hs, ho⟩
        refine ⟨s, hs, ?_⟩
        rw [Function.comp, decide_eq_true_eq, hm s hs] at ho
        rw [Function.comp, decide_eq_true_eq]
        exact (on_iso I).1 ho
      · rintro ⟨s, hs, ho⟩
        refine ⟨s, hs, ?_⟩
        rw [Function.comp, decide_eq_true_eq] at ho
        rw [Function.comp, decide_eq_true_eq, hm s hs]
        exact (on_iso I).2 ho
    unfold whr
    rw [hrim]
    by_cases hr : rim (L.map (sgm P g)) q = true
    · rw [if_pos hr, if_pos hr]
    · rw [if_neg hr, if_neg hr]
      have hpar : par (L.map (sgm (P.map T) g)) (T q) = par (L.map (sgm P g)) q := by
        rw [par_sgm, par_sgm]
        obtain ⟨F, hF⟩ := I.mark q
        have hoff : ∀ s ∈ L, ¬ (Pure.crs (sc g (pt P s.1)) (sc g (pt P s.2)) q = 0 ∧ Btw (sc g (pt P s.1)).1 (sc g (pt P s.2)).1 q.1 ∧ Btw (sc g (pt P s.1)).2 (sc g (pt P s.2)).2 q.2) := by
          intro s hs hb
          refine hr ?_
          unfold rim
          rw [List.any_eq_true]
          refine ⟨sgm P g s, List.mem_map.2 ⟨s, hs, rfl⟩, decide_eq_true ?_⟩
          have hk := of_decide_eq_true (List.all_eq_true.1 h.1 s hs)
          refine ⟨fun e => hk.2.1 ?_, ⟨hk.2.2.2.1, hk.2.2.2.2, h.2⟩, hb⟩
          unfold sgm sc at e
          have e1 := congrArg Prod.fst e
          have e2 := congrArg Prod.snd e
          dsimp only at e1 e2
          rcases hg with rfl | rfl <;> exact Prod.ext (by omega) (by omega)
        have h0 := xs_congr (h := fun s : Pt => xor (decide (Rgt (sc g (pt (P.map T) s.1)) (sc g (pt (P.map T) s.2)) (T q))) (decide (Rgt (sc g (pt P s.1)) (sc g (pt P s.2)) q))) (h' := fun s : Pt => xor ((fun i => F (sc g (pt P i))) s.1) ((fun i => F (sc g (pt P i))) s.2)) L (fun s hs => by
          have := hL s hs
          dsimp only
          rw [pt_map T this.1, pt_map T this.2, ← I.sc, ← I.sc]
          exact hF _ _ (hoff s hs))
        have h1 := h0.trans (lp_even lp fun i => F (sc g (pt P i)))
        rw [xs_xor] at h1
        revert h1
        generalize xs L _ = x
        generalize xs L _ = y
        cases x <;> cases y <;> decide
      rw [hpar]
  · rw [if_neg h, if_neg (fun x => h ⟨x.1, (I.fit q).1 x.2⟩)]
theorem midv_iso {P L : List Pt} (lp : Lp P.length L) {a b : Int} (ha : inr a P.length) (hb : inr b P.length) : midv (P.map T) L [a, b] = midv P L [a, b] := by
  have o : oki (P.map T) [a, b] = oki P [a, b] := by
    have key : ∀ i, inr i P.length → decide (OkI (P.map T) i) = decide (OkI P i) := by
      intro i hi
      rw [decide_eq_decide]
      unfold OkI
      rw [List.length_map, pt_map T hi, I.fit]
    rw [oki_cons, oki_cons, oki_cons, oki_cons, key a ha, key b hb]; rfl
  unfold midv
  rw [o, sumP_add, sumP_add, pt_map T ha, pt_map T hb, ← I.add]
  rw [show (([a, b] : List Int).length : Int) = 2 from rfl, atv_iso I lp (.inr rfl)]
theorem flaw_iso {p : Poly} (sm : Sm p) : flaw (tp T p) = flaw p := by
  have e5 : s5 (tp T p) = s5 p := by unfold s5; rw [tp_len]; rfl
  have e2 : s2 (tp T p) = s2 p := rfl
  have hlen : (tp T p).2.1.length = p.2.1.length := rfl
  unfold flaw rest
  rw [tp_s1 I, e2, tp_s3 I sm, tp_s4 I sm, e5]
  cases h1 : s1 p with
  | some q => rfl
  | none =>
  cases h2 : s2 p with
  | some q => rfl
  | none =>
  cases h3 : s3 p with
  | some q => rfl
  | none =>
  cases h4 : s4 p with
  | some q => rfl
  | none =>
  cases h5 : s5 p with
  | some q => rfl
  | none =>
  have F : Fine p := ⟨sm, h1, h2, h3⟩
  have lp : Lp p.1.length p.2.1 := lp_of F.okL F.twoL h5
  have e7 : s7 (tp T p) = s7 p := by
    unfold s7
    refine row_congr (fun k hk => ?_) _ 0 rfl (Nat.zero_le _)
    have hk' : k < p.2.2.length := hk
    have hok : oks p.1.length (pt p.2.2 (k : Int)) := by rw [pt_nat hk']; exact sm.si _ (List.getElem_mem _)
    unfold outb
    show (!decide ((midv (p.1.map T) p.2.1 [(pt p.2.2 (k : Int)).1, (pt p.2.2 (k : Int)).2]).1 = 1)) = _
    rw [midv_iso I lp hok.1 hok.2]
  have e8 : s8 (tp T p) = s8 p := by
    unfold s8
    rw [tp_len]
    refine row_congr (fun k hk => ?_) _ 0 rfl (Nat.zero_le _)
    unfold strb
    show (decide (dgr (sgs p) (k : Int) = 0) && !decide ((atv (p.1.map T) p.2.1 1 (pt (p.1.map T) (k : Int))).1 = 1)) = _
    rw [pt_map T ⟨by omega, by omega⟩, atv_iso I lp (.inl rfl)]
  rw [e7, e8]
  rfl
end
theorem mulsign (x y : Int) : (x = 0 ∧ x * y = 0) ∨ (y = 0 ∧ x * y = 0) ∨ (0 < x ∧ 0 < y ∧ 0 < x * y) ∨ (0 < x ∧ y < 0 ∧ x * y < 0) ∨ (x < 0 ∧ 0 < y ∧ x * y < 0) ∨ (x < 0 ∧ y < 0 ∧ 0 < x * y) := by
  rcases Int.lt_trichotomy x 0 with hx | hx | hx
  · rcases Int.lt_trichotomy y 0 with hy | hy | hy
    · have := Int.mul_pos_of_neg_of_neg hx hy; omega
    · subst hy; simp
    · have := Int.mul_neg_of_neg_of_pos hx hy; omega
  · subst hx; simp
  · rcases Int.lt_trichotomy y 0 with hy | hy | hy
    · have := Int.mul_neg_of_pos_of_neg hx hy; omega
    · subst hy; simp
    · have := Int.mul_pos hx hy; omega
theorem crs_rel (a b q : Pt) : crs a b q = (a.1 - q.1) * (b.2 - q.2) - (a.2 - q.2) * (b.1 - q.1) := by unfold crs; grind
theorem dxor {x y z w : Prop} [Decidable x] [Decidable y] [Decidable z] [Decidable w] (h : (x ↔ y) ↔ (z ↔ w)) : xor (decide x) (decide y) = xor (decide z) (decide w) := by
  by_cases x <;> by_cases y <;> by_cases z <;> by_cases w <;> simp_all
def mrP (a : Pt) : Pt := (-a.1, a.2)
theorem mr_iso : Iso mrP where
  inj a b := by
    unfold mrP
    exact ⟨fun e => Prod.ext (by have := congrArg Prod.fst e; dsimp only at this; omega) (by have := congrArg Prod.snd e; exact this), by rintro rfl; rfl⟩
  fit a := by unfold Fit mrP; dsimp only; omega
  ok a := by unfold okq mrP; dsimp only; omega
  crs a b c := by unfold crs mrP; dsimp only; grind
  btw a b c := by unfold Btw mrP; dsimp only; omega
  sc g a := by unfold sc mrP; dsimp only; rw [Int.mul_neg]
  add a b := by unfold add mrP; refine Prod.ext ?_ ?_ <;> dsimp only; omega
  mark q := by
    refine ⟨fun v => decide (v.2 > q.2), fun a b hno => dxor ?_⟩
    have e : crs (mrP a) (mrP b) (mrP q) = -crs a b q := by unfold crs mrP; dsimp only; grind
    unfold Rgt
    rw [e]
    rw [crs_rel] at hno ⊢
    have s1 := mulsign (a.1 - q.1) (b.2 - q.2)
    have s2 := mulsign (a.2 - q.2) (b.1 - q.1)
    unfold Btw at hno
    unfold mrP
    dsimp only
    generalize (a.1 - q.1) * (b.2 - q.2) = P at *
    generalize (a.2 - q.2) * (b.1 - q.1) = Q at *
    rcases s1 with s1 | s1 | s1 | s1 | s1 | s1 <;> rcases s2 with s2 | s2 | s2 | s2 | s2 | s2 <;> omega
def swP (a : Pt) : Pt := (a.2, a.1)
theorem sw_iso : Iso swP where
  inj a b := by
    unfold swP
    exact ⟨fun e => Prod.ext (congrArg Prod.snd e) (congrArg Prod.fst e), by rintro rfl; rfl⟩
  fit a := by unfold Fit swP; dsimp only; omega
  ok a := by unfold okq swP; dsimp only; omega
  crs a b c := by unfold crs swP; dsimp only; grind
  btw a b c := by unfold Btw swP; dsimp only; omega
  sc g a := rfl
  add a b := rfl
  mark q := by
    refine ⟨fun v => decide (v.1 > q.1 ∧ v.2 > q.2), fun a b hno => dxor ?_⟩
    have e : crs (swP a) (swP b) (swP q) = -crs a b q := by unfold crs swP; dsimp only; grind
    unfold Rgt
    rw [e]
    rw [crs_rel] at hno ⊢
    have s1 := mulsign (a.1 - q.1) (b.2 - q.2)
    have s2 := mulsign (a.2 - q.2) (b.1 - q.1)
    unfold Btw at hno
    unfold swP
    dsimp only
    generalize (a.1 - q.1) * (b.2 - q.2) = P at *
    generalize (a.2 - q.2) * (b.1 - q.1) = Q at *
    rcases s1 with s1 | s1 | s1 | s1 | s1 | s1 <;> rcases s2 with s2 | s2 | s2 | s2 | s2 | s2 <;> omega
end Go.Proofs.Ytjbimhfhapnjeaa.Pure
end
/- Numbered from another place on, an input has a flaw of the same kind. -/
section
set_option linter.unusedVariables false
set_option linter.unusedSimpArgs false
set_option linter.unusedSectionVars false
namespace Go.Proofs.Ytjbimhfhapnjeaa.Pure
open Go.RowKit Go.Proofs.Ytjbimhfhapnjeaa.AM PL

/-- The new number of a place. -/
def pn (n b : Nat) (i : Int) : Int := if i < (b : Int) then i + (n : Int) - (b : Int) else i - (b : Int)
def rn (p : Poly) (b : Nat) : Poly := (p.1.drop b ++ p.1.take b, p.2.1.map fun s => (pn p.1.length b s.2, pn p.1.length b s.1), p.2.2.reverse.map fun s => (pn p.1.length b s.1, pn p.1.length b s.2))
theorem pn_in {n b : Nat} (hb : b < n) {i : Int} (h : inr i n) : inr (pn n b i) n := by
  have := h.1; have := h.2
  unfold pn
  split <;> exact ⟨by omega, by omega⟩
theorem pn_inj {n b : Nat} (hb : b < n) {i j : Int} (hi : inr i n) (hj : inr j n) : pn n b i = pn n b j ↔ i = j := by
  have := hi.1; have := hi.2; have := hj.1; have := hj.2
  unfold pn
  constructor
  · intro h
    split at h <;> split at h <;> omega
  · rintro rfl; rfl
theorem pn_sur {n b : Nat} (hb : b < n) (v : Nat) (hv : v < n) : ∃ u : Nat, u < n ∧ pn n b (u : Int) = (v : Int) := by
  by_cases h : v + b < n
  · refine ⟨v + b, h, ?_⟩
    unfold pn
    rw [if_neg (by omega)]; omega
  · refine ⟨v + b - n, by omega, ?_⟩
    unfold pn
    rw [if_pos (by omega)]; omega
section
variable {p : Poly} (sm : Sm p) {b : Nat} (hb : b < p.1.length)
theorem rn_len (p : Poly) (b : Nat) (hb : b < p.1.length) : (rn p b).1.length = p.1.length := by unfold rn; simp; omega
theorem rn_sgs (p : Poly) (b : Nat) : sgs (rn p b) = (p.2.1.map fun s => (pn p.1.length b s.2, pn p.1.length b s.1)) ++ p.2.2.reverse.map fun s => (pn p.1.length b s.1, pn p.1.length b s.2) := rfl
include hb
theorem rn_pt {i : Int} (h : inr i p.1.length) : pt (rn p b).1 (pn p.1.length b i) = pt p.1 i := by
  obtain ⟨j, rfl⟩ := Int.eq_ofNat_of_zero_le h.1
  have h2 := h.2
  unfold rn
  dsimp only
  by_cases c : (j : Int) < (b : Int)
  · have e : pn p.1.length b (j : Int) = ((p.1.length - b + j : Nat) : Int) := by unfold pn; rw [if_pos c]; omega
    rw [e, pt_nat (by simp; omega), pt_nat (by omega), List.getElem_append_right (by simp)]
    simp
  · have e : pn p.1.length b (j : Int) = ((j - b : Nat) : Int) := by unfold pn; rw [if_neg c]; omega
    rw [e, pt_nat (by simp; omega), pt_nat (by omega), List.getElem_append_left (by simp; omega), List.getElem_drop]
    congr 1
    omega
theorem rn_oks {s : Pt} (h : oks p.1.length s) : oks (rn p b).1.length (pn p.1.length b s.2, pn p.1.length b s.1) ∧ oks (rn p b).1.length (pn p.1.length b s.1, pn p.1.length b s.2) := by
  rw [rn_len p b hb]
  exact ⟨⟨pn_in hb h.2, pn_in hb h.1⟩, ⟨pn_in hb h.1, pn_in hb h.2⟩⟩
theorem rn_en1 {s : Pt} (h : oks p.1.length s) : en (rn p b).1 (pn p.1.length b s.2, pn p.1.length b s.1) = ((en p.1 s).2, (en p.1 s).1) := by
  unfold en
  dsimp only
  rw [rn_pt hb h.1, rn_pt hb h.2]
theorem rn_en2 {s : Pt} (h : oks p.1.length s) : en (rn p b).1 (pn p.1.length b s.1, pn p.1.length b s.2) = en p.1 s := by
  unfold en
  dsimp only
  rw [rn_pt hb h.1, rn_pt hb h.2]
omit hb in
theorem rn_mem (p : Poly) (b : Nat) (q : Pt) : q ∈ (rn p b).1 ↔ q ∈ p.1 := by
  unfold rn
  dsimp only
  rw [List.mem_append, or_comm, ← List.mem_append, List.take_append_drop]
include sm
theorem rn_sm : Sm (rn p b) := by
  have hP := sm.P; have hL := sm.L; have hI := sm.I
  have l2 : (rn p b).2.1.length = p.2.1.length := by unfold rn; simp
  have l3 : (rn p b).2.2.length = p.2.2.length := by unfold rn; simp
  refine ⟨chk_iff.2 ⟨?_, fun q hq => sm.q q ((rn_mem p b q).1 hq), fun s hs => ?_, fun s hs => ?_⟩, by rw [rn_len p b hb]; exact hP, by rw [l2]; exact hL, by rw [l3]; exact hI⟩
  · have := (chk_iff.1 sm.chk).1
    unfold few3 at *
    rw [rn_len p b hb, l2, l3]
    exact this
  · unfold rn at hs
    obtain ⟨t, ht, rfl⟩ := List.mem_map.1 hs
    exact (rn_oks hb (sm.sl t ht)).1
  · unfold rn at hs
    obtain ⟨t, ht, rfl⟩ := List.mem_map.1 hs
    exact (rn_oks hb (sm.si t (List.mem_reverse.1 ht))).2
omit sm hb in
theorem rn_s1 (p : Poly) (b : Nat) : s1 (rn p b) = none ↔ s1 p = none := by
  rw [s1n, s1n]
  show (p.1.drop b ++ p.1.take b).Nodup ↔ p.1.Nodup
  have h : (p.1.drop b ++ p.1.take b).Perm p.1 := by
    have := List.perm_append_comm (l₁ := p.1.drop b) (l₂ := p.1.take b)
    rwa [List.take_append_drop] at this
  exact h.nodup_iff
theorem rn_s2 : s2 (rn p b) = none ↔ s2 p = none := by
  rw [s2n, s2n, rn_sgs]
  constructor
  · intro h s hs
    have hok := sm.s s hs
    rcases List.mem_append.1 hs with hs | hs
    · have := h _ (List.mem_append_left _ (List.mem_map.2 ⟨s, hs, rfl⟩))
      dsimp only at this
      rw [ne_eq, pn_inj hb hok.2 hok.1] at this
      exact fun e => this e.symm
    · have := h _ (List.mem_append_right _ (List.mem_map.2 ⟨s, List.mem_reverse.2 hs, rfl⟩))
      dsimp only at this
      rw [ne_eq, pn_inj hb hok.1 hok.2] at this
      exact this
  · intro h s hs
    rcases List.mem_append.1 hs with hs | hs
    · obtain ⟨t, ht, rfl⟩ := List.mem_map.1 hs
      have hok := sm.sl t ht
      dsimp only
      rw [ne_eq, pn_inj hb hok.2 hok.1]
      exact fun e => h t (List.mem_append_left _ ht) e.symm
    · obtain ⟨t, ht, rfl⟩ := List.mem_map.1 hs
      have ht := List.mem_reverse.1 ht
      have hok := sm.si t ht
      dsimp only
      rw [ne_eq, pn_inj hb hok.1 hok.2]
      exact h t (List.mem_append_right _ ht)
omit sm hb in
theorem mt_swap {P P' : List Pt} {s t s' t' : Pt} (h1 : en P' s' = ((en P s).2, (en P s).1)) (h2 : en P' t' = ((en P t).2, (en P t).1)) : Mt P' s' t' ↔ Mt P s t := by
  unfold Mt
  rw [h1, h2]
  dsimp only
  rw [segs_swap, segs_last]
omit sm hb in
theorem mt_swap1 {P P' : List Pt} {s t s' t' : Pt} (h1 : en P' s' = ((en P s).2, (en P s).1)) (h2 : en P' t' = en P t) : Mt P' s' t' ↔ Mt P s t := by
  unfold Mt
  rw [h1, h2]
  dsimp only
  rw [segs_swap]
omit sm hb in
theorem mt_turn {P P' : List Pt} {s t s' t' : Pt} (h1 : en P' s' = en P s) (h2 : en P' t' = en P t) : Mt P' t' s' ↔ Mt P s t := by
  unfold Mt
  rw [h1, h2, segs_turn]
theorem rn_s3 : s3 (rn p b) = none ↔ s3 p = none := by
  rw [s3n, s3n, rn_sgs]
  unfold sgs
  rw [List.pairwise_append, List.pairwise_append, List.pairwise_map, List.pairwise_map, List.pairwise_reverse]
  refine and_congr ?_ (and_congr ?_ ?_)
  · exact List.Pairwise.iff_of_mem fun {s t} hs ht => mt_swap (rn_en1 hb (sm.sl s hs)) (rn_en1 hb (sm.sl t ht))
  · exact List.Pairwise.iff_of_mem fun {s t} hs ht => mt_turn (rn_en2 hb (sm.si s hs)) (rn_en2 hb (sm.si t ht))
  · constructor
    · intro h s hs t ht
      exact (mt_swap1 (rn_en1 hb (sm.sl s hs)) (rn_en2 hb (sm.si t ht))).1 (h _ (List.mem_map.2 ⟨s, hs, rfl⟩) _ (List.mem_map.2 ⟨t, List.mem_reverse.2 ht, rfl⟩))
    · intro h s hs t ht
      obtain ⟨s, hs', rfl⟩ := List.mem_map.1 hs
      obtain ⟨t, ht', rfl⟩ := List.mem_map.1 ht
      replace hs := hs'
      replace ht := List.mem_reverse.1 ht'
      exact (mt_swap1 (rn_en1 hb (sm.sl s hs)) (rn_en2 hb (sm.si t ht))).2 (h s hs t ht)
theorem rn_s4 : s4 (rn p b) = none ↔ s4 p = none := by
  rw [s4n, s4n, rn_sgs]
  constructor
  · intro h q hq s hs hi
    have hq' := (rn_mem p b q).2 hq
    rcases List.mem_append.1 hs with hs | hs
    · have := h q hq' _ (List.mem_append_left _ (List.mem_map.2 ⟨s, hs, rfl⟩))
      rw [rn_en1 hb (sm.sl s hs)] at this
      exact this (ins_swap.1 hi)
    · have := h q hq' _ (List.mem_append_right _ (List.mem_map.2 ⟨s, List.mem_reverse.2 hs, rfl⟩))
      rw [rn_en2 hb (sm.si s hs)] at this
      exact this hi
  · intro h q hq s hs hi
    have hq' := (rn_mem p b q).1 hq
    rcases List.mem_append.1 hs with hs | hs
    · obtain ⟨t, ht, rfl⟩ := List.mem_map.1 hs
      rw [rn_en1 hb (sm.sl t ht)] at hi
      exact h q hq' t (List.mem_append_left _ ht) (ins_swap.1 hi)
    · obtain ⟨t, ht, rfl⟩ := List.mem_map.1 hs
      have ht := List.mem_reverse.1 ht
      rw [rn_en2 hb (sm.si t ht)] at hi
      exact h q hq' t (List.mem_append_right _ ht) hi
omit sm in
theorem rn_dgr1 {L : List Pt} (hL : ∀ s ∈ L, oks p.1.length s) {u : Int} (hu : inr u p.1.length) : dgr (L.map fun s => (pn p.1.length b s.2, pn p.1.length b s.1)) (pn p.1.length b u) = dgr L u := by
  unfold dgr
  rw [List.countP_map, List.countP_map, Nat.add_comm]
  congr 1
  · refine List.countP_congr fun s hs => ?_
    simp only [Function.comp, decide_eq_true_eq]
    exact pn_inj hb (hL s hs).1 hu
  · refine List.countP_congr fun s hs => ?_
    simp only [Function.comp, decide_eq_true_eq]
    exact pn_inj hb (hL s hs).2 hu
omit sm in
theorem rn_dgr2 {L : List Pt} (hL : ∀ s ∈ L, oks p.1.length s) {u : Int} (hu : inr u p.1.length) : dgr (L.reverse.map fun s => (pn p.1.length b s.1, pn p.1.length b s.2)) (pn p.1.length b u) = dgr L u := by
  unfold dgr
  rw [List.countP_map, List.countP_map, List.countP_reverse, List.countP_reverse]
  congr 1
  · refine List.countP_congr fun s hs => ?_
    simp only [Function.comp, decide_eq_true_eq]
    exact pn_inj hb (hL s hs).1 hu
  · refine List.countP_congr fun s hs => ?_
    simp only [Function.comp, decide_eq_true_eq]
    exact pn_inj hb (hL s hs).2 hu
theorem rn_s5 : s5 (rn p b) = none ↔ s5 p = none := by
  rw [s5n, s5n, rn_len p b hb]
  show (∀ v : Nat, v < p.1.length → dgr (p.2.1.map fun s => (pn p.1.length b s.2, pn p.1.length b s.1)) (v : Int) = 0 ∨ dgr (p.2.1.map fun s => (pn p.1.length b s.2, pn p.1.length b s.1)) (v : Int) = 2) ↔ _
  constructor
  · intro h u hu
    have hi := pn_in hb (i := (u : Int)) ⟨by omega, by omega⟩
    obtain ⟨v, hv⟩ := Int.eq_ofNat_of_zero_le hi.1
    have := h v (by have := hi.2; omega)
    rw [← hv, rn_dgr1 hb sm.sl ⟨by omega, by omega⟩] at this
    exact this
  · intro h v hv
    obtain ⟨u, hu, e⟩ := pn_sur hb v hv
    rw [← e, rn_dgr1 hb sm.sl ⟨by omega, by omega⟩]
    exact h u hu
theorem rn_okl (g : Int) : okl (rn p b).1 g (rn p b).2.1 = okl p.1 g p.2.1 := by
  unfold okl rn
  dsimp only
  rw [List.all_map, Bool.eq_iff_iff, List.all_eq_true, List.all_eq_true]
  refine forall₂_congr fun s hs => ?_
  rw [Function.comp, decide_eq_true_eq, decide_eq_true_eq]
  have hok := sm.sl s hs
  have h1 := rn_pt hb hok.1
  have h2 := rn_pt hb hok.2
  have h3 := (rn_oks hb hok).1
  unfold rn at h1 h2 h3
  dsimp only at h1 h2 h3
  unfold OkS
  dsimp only
  rw [h1, h2]
  exact ⟨fun h => ⟨hok, fun e => h.2.1 e.symm, ⟨h.2.2.1.2, h.2.2.1.1⟩, h.2.2.2.2, h.2.2.2.1⟩, fun h => ⟨h3, fun e => h.2.1 e.symm, ⟨h.2.2.1.2, h.2.2.1.1⟩, h.2.2.2.2, h.2.2.2.1⟩⟩
omit sm hb in
theorem whr_flip (q : Pt) (L : List Sg) : whr (L.map fun s => (s.2, s.1)) q = whr L q := by
  have h1 : rim (L.map fun s => (s.2, s.1)) q = rim L q := by
    induction L with
    | nil => rfl
    | cons s L ih => rw [List.map_cons, rim_cons, rim_cons, ih, decide_eq_decide.2 (on_swap (a := s.2) (b := s.1) (p := q))]
  have h2 : par (L.map fun s => (s.2, s.1)) q = par L q := by
    clear h1
    induction L with
    | nil => rfl
    | cons s L ih => rw [List.map_cons, par_cons, par_cons, ih, decide_eq_decide.2 (rgt_swap (a := s.1) (b := s.2) (q := q))]
  unfold whr
  rw [h1, h2]
theorem rn_atv (g : Int) (q : Pt) : atv (rn p b).1 (rn p b).2.1 g q = atv p.1 p.2.1 g q := by
  have e : (rn p b).2.1.map (sgm (rn p b).1 g) = (p.2.1.map (sgm p.1 g)).map fun s => (s.2, s.1) := by
    rw [List.map_map]
    show (p.2.1.map _).map _ = _
    rw [List.map_map]
    refine List.map_congr_left fun s hs => ?_
    have hok := sm.sl s hs
    simp only [Function.comp]
    unfold sgm
    dsimp only
    rw [rn_pt hb hok.1, rn_pt hb hok.2]
  unfold atv
  rw [rn_okl sm hb g, e, whr_flip]
theorem rn_midv {s : Pt} (h : oks p.1.length s) : midv (rn p b).1 (rn p b).2.1 [pn p.1.length b s.1, pn p.1.length b s.2] = midv p.1 p.2.1 [s.1, s.2] := by
  have o : oki (rn p b).1 [pn p.1.length b s.1, pn p.1.length b s.2] = oki p.1 [s.1, s.2] := by
    have key : ∀ i, inr i p.1.length → decide (OkI (rn p b).1 (pn p.1.length b i)) = decide (OkI p.1 i) := by
      intro i hi
      rw [decide_eq_decide]
      unfold OkI
      rw [rn_len p b hb, rn_pt hb hi]
      exact and_congr_left fun _ => ⟨fun _ => hi, fun _ => pn_in hb hi⟩
    rw [oki_cons, oki_cons, oki_cons, oki_cons, key _ h.1, key _ h.2]; rfl
  unfold midv
  rw [o, sumP_add, sumP_add, rn_pt hb h.1, rn_pt hb h.2]
  rw [show (([pn p.1.length b s.1, pn p.1.length b s.2] : List Int).length : Int) = 2 from rfl, show (([s.1, s.2] : List Int).length : Int) = 2 from rfl, rn_atv sm hb]
theorem rn_s7 : s7 (rn p b) = none ↔ s7 p = none := by
  rw [s7n, s7n]
  constructor
  · intro h s hs
    have := h (pn p.1.length b s.1, pn p.1.length b s.2) (List.mem_map.2 ⟨s, List.mem_reverse.2 hs, rfl⟩)
    dsimp only at this
    rw [rn_midv sm hb (sm.si s hs)] at this
    exact this
  · intro h s hs
    obtain ⟨t, ht, rfl⟩ := List.mem_map.1 hs
    have ht := List.mem_reverse.1 ht
    dsimp only
    rw [rn_midv sm hb (sm.si t ht)]
    exact h t ht
theorem rn_s8 : s8 (rn p b) = none ↔ s8 p = none := by
  rw [s8n, s8n, rn_len p b hb, rn_sgs]
  have hd : ∀ u : Nat, u < p.1.length → dgr ((p.2.1.map fun s => (pn p.1.length b s.2, pn p.1.length b s.1)) ++ p.2.2.reverse.map fun s => (pn p.1.length b s.1, pn p.1.length b s.2)) (pn p.1.length b (u : Int)) = dgr (sgs p) (u : Int) := by
    intro u hu
    have hi : inr (u : Int) p.1.length := ⟨by omega, by omega⟩
    rw [dgr_app, rn_dgr1 hb sm.sl hi, rn_dgr2 hb sm.si hi]
    unfold sgs
    rw [dgr_app]
  constructor
  · intro h u hu h0
    have hu' : inr (u : Int) p.1.length := ⟨by omega, by omega⟩
    have hi := pn_in hb hu'
    obtain ⟨v, hv⟩ := Int.eq_ofNat_of_zero_le hi.1
    have := h v (by have := hi.2; omega)
    rw [← hv, hd u hu, rn_atv sm hb, rn_pt hb hu'] at this
    exact this h0
  · intro h v hv h0
    obtain ⟨u, hu, e⟩ := pn_sur hb v hv
    rw [← e] at h0 ⊢
    rw [hd u hu] at h0
    rw [rn_atv sm hb, rn_pt hb ⟨by omega, by omega⟩]
    exact h u hu h0
omit sm hb in
theorem kind_same {p q : Poly} (e1 : s1 q = none ↔ s1 p = none) (e2 : s2 q = none ↔ s2 p = none) (e3 : s3 q = none ↔ s3 p = none) (e4 : s4 q = none ↔ s4 p = none) (e5 : s5 q = none ↔ s5 p = none) (e6 : q.2.1.length = p.2.1.length) (e7 : s7 q = none ↔ s7 p = none) (e8 : s8 q = none ↔ s8 p = none) : (flaw q).1 = (flaw p).1 := by
  unfold flaw rest six
  rw [e6]
  cases h1 : s1 p with
  | some x => cases g1 : s1 q with
    | some y => rfl
    | none => rw [e1.1 g1] at h1; cases h1
  | none =>
  rw [e1.2 h1]
  cases h2 : s2 p with
  | some x => cases g1 : s2 q with
    | some y => rfl
    | none => rw [e2.1 g1] at h2; cases h2
  | none =>
  rw [e2.2 h2]
  cases h3 : s3 p with
  | some x => cases g1 : s3 q with
    | some y => rfl
    | none => rw [e3.1 g1] at h3; cases h3
  | none =>
  rw [e3.2 h3]
  cases h4 : s4 p with
  | some x => cases g1 : s4 q with
    | some y => rfl
    | none => rw [e4.1 g1] at h4; cases h4
  | none =>
  rw [e4.2 h4]
  cases h5 : s5 p with
  | some x => cases g1 : s5 q with
    | some y => rfl
    | none => rw [e5.1 g1] at h5; cases h5
  | none =>
  rw [e5.2 h5]
  by_cases h6 : p.2.1.length = 0
  · rw [if_pos h6, if_pos h6]
  rw [if_neg h6, if_neg h6]
  cases h7 : s7 p with
  | some x => cases g1 : s7 q with
    | some y => rfl
    | none => rw [e7.1 g1] at h7; cases h7
  | none =>
  rw [e7.2 h7]
  cases h8 : s8 p with
  | some x => cases g1 : s8 q with
    | some y => rfl
    | none => rw [e8.1 g1] at h8; cases h8
  | none =>
  rw [e8.2 h8]
theorem rn_kind : (flaw (rn p b)).1 = (flaw p).1 := kind_same (rn_s1 p b) (rn_s2 sm hb) (rn_s3 sm hb) (rn_s4 sm hb) (rn_s5 sm hb) (by unfold rn; simp) (rn_s7 sm hb) (rn_s8 sm hb)
end
end Go.Proofs.Ytjbimhfhapnjeaa.Pure
end
