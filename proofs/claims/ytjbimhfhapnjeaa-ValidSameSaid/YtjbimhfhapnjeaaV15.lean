/- Moved, an input has the flaw that it had. -/
import Derived.Test.YtjbimhfhapnjeaaV12
section
set_option linter.unusedVariables false
set_option linter.unusedSimpArgs false
namespace Go.Proofs.Ytjbimhfhapnjeaa.Pure
open Go.RowKit Go.Proofs.Ytjbimhfhapnjeaa.AM PL

theorem row_congr {f g : Nat → Nat → Bool} {n a : Nat} (h : ∀ k, k < n → f a k = g a k) : ∀ (d b : Nat), n - b = d → b ≤ n → row f n a b = row g n a b
  | 0, b, hd, hb => by
    obtain rfl : b = n := by omega
    rw [row_end, row_end]
  | d + 1, b, hd, hb => by
    rw [row_step f (show b < n by omega), row_step g (show b < n by omega), h b (by omega), row_congr h d (b + 1) (by omega) (by omega)]
theorem srch_congr {f g : Nat → Nat → Bool} {n : Nat} (h : ∀ i k, i < n → k < n → f i k = g i k) : ∀ (d a : Nat), n - a = d → a ≤ n → srch f n a = srch g n a
  | 0, a, hd, ha => by
    obtain rfl : a = n := by omega
    rw [srch_end, srch_end]
  | d + 1, a, hd, ha => by
    rw [srch_step f (show a < n by omega), srch_step g (show a < n by omega), row_congr (fun k hk => h a k (by omega) hk) _ (a + 1) rfl (by omega), srch_congr h d (a + 1) (by omega) (by omega)]
theorem rct_congr {f g : Nat → Nat → Bool} {n m : Nat} (h : ∀ i k, i < n → k < m → f i k = g i k) : ∀ (d a : Nat), n - a = d → a ≤ n → rct f n m a = rct g n m a
  | 0, a, hd, ha => by
    obtain rfl : a = n := by omega
    rw [rct_end, rct_end]
  | d + 1, a, hd, ha => by
    rw [rct_step f (show a < n by omega), rct_step g (show a < n by omega), row_congr (fun k hk => h a k (by omega) hk) _ 0 rfl (Nat.zero_le _), rct_congr h d (a + 1) (by omega) (by omega)]
def mv (t a : Pt) : Pt := (a.1 + t.1, a.2 + t.2)
theorem mv_inj {t a b : Pt} : mv t a = mv t b ↔ a = b := by
  unfold mv
  rw [Prod.ext_iff, Prod.ext_iff]
  dsimp only
  omega
theorem crs_mv (t a b c : Pt) : crs (mv t a) (mv t b) (mv t c) = crs a b c := by
  have h : ∀ x y z : Int, (x + z) - (y + z) = x - y := fun x y z => by omega
  unfold crs mv
  simp only [h]
theorem btw_mv {a b c z : Int} : Btw (a + z) (b + z) (c + z) ↔ Btw a b c := by unfold Btw; omega
/-- Where it is, and where it is moved to, a place may be. -/
def FF (t a : Pt) : Prop := Fit a ∧ Fit (mv t a)
theorem on_mv {t a b p : Pt} (ha : FF t a) (hb : FF t b) (hp : FF t p) : On (mv t a) (mv t b) (mv t p) ↔ On a b p := by
  unfold On
  rw [crs_mv]
  exact ⟨fun h => ⟨fun e => h.1 (mv_inj.2 e), ⟨ha.1, hb.1, hp.1⟩, h.2.2.1, btw_mv.1 h.2.2.2.1, btw_mv.1 h.2.2.2.2⟩,
    fun h => ⟨fun e => h.1 (mv_inj.1 e), ⟨ha.2, hb.2, hp.2⟩, h.2.2.1, btw_mv.2 h.2.2.2.1, btw_mv.2 h.2.2.2.2⟩⟩
theorem ins_mv {t a b p : Pt} (ha : FF t a) (hb : FF t b) (hp : FF t p) : Ins (mv t a) (mv t b) (mv t p) ↔ Ins a b p := by
  unfold Ins
  rw [on_mv ha hb hp]
  exact ⟨fun h => ⟨h.1, fun e => h.2.1 (mv_inj.2 e), fun e => h.2.2 (mv_inj.2 e)⟩, fun h => ⟨h.1, fun e => h.2.1 (mv_inj.1 e), fun e => h.2.2 (mv_inj.1 e)⟩⟩
theorem ori_mv {t a b p : Pt} (ha : FF t a) (hb : FF t b) (hp : FF t p) : ori (mv t a) (mv t b) (mv t p) = ori a b p := by
  unfold ori
  rw [if_pos ⟨ha.2, hb.2, hp.2⟩, if_pos ⟨ha.1, hb.1, hp.1⟩, crs_mv]
theorem segs_mv {t a b c d : Pt} (ha : FF t a) (hb : FF t b) (hc : FF t c) (hd : FF t d) : segs (mv t a) (mv t b) (mv t c) (mv t d) = segs a b c d := by
  have hbad : Bad (mv t a) (mv t b) (mv t c) (mv t d) ↔ Bad a b c d := by
    unfold Bad
    rw [mv_inj, mv_inj]
    exact ⟨fun h => h.imp id (Or.imp id fun h => absurd ⟨ha.2, hb.2, hc.2, hd.2⟩ h), fun h => h.imp id (Or.imp id fun h => absurd ⟨ha.1, hb.1, hc.1, hd.1⟩ h)⟩
  have hcro : Cro (mv t a) (mv t b) (mv t c) (mv t d) ↔ Cro a b c d := by
    unfold Cro
    rw [ori_mv ha hb hc, ori_mv ha hb hd, ori_mv hc hd ha, ori_mv hc hd hb]
  have hends : ends (mv t a) (mv t b) (mv t c) (mv t d) = ends a b c d := by
    unfold ends
    rw [decide_eq_decide.2 (mv_inj (t := t) (a := a) (b := c)), decide_eq_decide.2 (mv_inj (t := t) (a := a) (b := d)), decide_eq_decide.2 (mv_inj (t := t) (a := b) (b := c)), decide_eq_decide.2 (mv_inj (t := t) (a := b) (b := d))]
  have hinss : inss (mv t a) (mv t b) (mv t c) (mv t d) = inss a b c d := by
    unfold inss
    rw [decide_eq_decide.2 (ins_mv ha hb hc), decide_eq_decide.2 (ins_mv ha hb hd), decide_eq_decide.2 (ins_mv hc hd ha), decide_eq_decide.2 (ins_mv hc hd hb)]
  have hhow : how (mv t a) (mv t b) (mv t c) (mv t d) = how a b c d := by
    unfold how
    rw [hends, hinss]
    by_cases h : Cro a b c d
    · rw [if_pos h, if_pos (hcro.2 h)]
    · rw [if_neg h, if_neg (fun x => h (hcro.1 x))]
  unfold segs
  rw [hhow]
  by_cases h : Bad a b c d
  · rw [if_pos h, if_pos (hbad.2 h)]
  · rw [if_neg h, if_neg (fun x => h (hbad.1 x))]
theorem rgt_mv {t a b q : Pt} : Rgt (mv t a) (mv t b) (mv t q) ↔ Rgt a b q := by
  unfold Rgt
  rw [crs_mv]
  unfold mv
  dsimp only
  constructor <;> intro h <;> omega
theorem whr_mv {t q : Pt} (hq : FF t q) : ∀ {L : List Sg}, (∀ s ∈ L, FF t s.1 ∧ FF t s.2) → whr (L.map fun s => (mv t s.1, mv t s.2)) (mv t q) = whr L q := by
  intro L hL
  have hrim : rim (L.map fun s => (mv t s.1, mv t s.2)) (mv t q) = rim L q := by
    induction L with
    | nil => rfl
    | cons s L ih =>
      rw [List.map_cons, rim_cons, rim_cons, ih (fun x hx => hL x (List.mem_cons_of_mem _ hx))]
      have hs := hL s List.mem_cons_self
      rw [decide_eq_decide.2 (on_mv hs.1 hs.2 hq)]
  have hpar : par (L.map fun s => (mv t s.1, mv t s.2)) (mv t q) = par L q := by
    clear hrim hL
    induction L with
    | nil => rfl
    | cons s L ih =>
      rw [List.map_cons, par_cons, par_cons, ih, decide_eq_decide.2 (rgt_mv (t := t) (a := s.1) (b := s.2) (q := q))]
  unfold whr
  rw [hrim, hpar]
theorem pt_mv {P : List Pt} (t : Pt) {i : Int} (h : inr i P.length) : pt (P.map (mv t)) i = mv t (pt P i) := by
  obtain ⟨j, rfl⟩ := Int.eq_ofNat_of_zero_le h.1
  have h2 := h.2
  rw [pt_nat (by rw [List.length_map]; omega), pt_nat (by omega), List.getElem_map]
end Go.Proofs.Ytjbimhfhapnjeaa.Pure
end
/- The flaw of what is moved. -/
section
set_option linter.unusedVariables false
set_option linter.unusedSimpArgs false
set_option linter.unusedSectionVars false
namespace Go.Proofs.Ytjbimhfhapnjeaa.Pure
open Go.RowKit Go.Proofs.Ytjbimhfhapnjeaa.AM PL

def mvp (t : Pt) (p : Poly) : Poly := (p.1.map (mv t), p.2.1, p.2.2)
theorem okq_ff {t a : Pt} (h : okq a) (h' : okq (mv t a)) : FF t a := ⟨okq_fit h, okq_fit h'⟩
/-- An input, and where it is moved to. -/
structure Mvd (t : Pt) (p : Poly) : Prop where
  sm : Sm p
  sm' : Sm (mvp t p)
section
variable {t : Pt} {p : Poly} (M : Mvd t p)
theorem mvp_len (t : Pt) (p : Poly) : (mvp t p).1.length = p.1.length := by unfold mvp; simp
theorem mvp_sgs (t : Pt) (p : Poly) : sgs (mvp t p) = sgs p := rfl
include M
theorem Mvd.okq {i : Int} (h : inr i p.1.length) : okq (pt p.1 i) ∧ Pure.okq (mv t (pt p.1 i)) := by
  refine ⟨M.sm.q _ (pt_mem h), ?_⟩
  rw [← pt_mv t h]
  exact M.sm'.q _ (pt_mem (by rw [mvp_len]; exact h))
theorem Mvd.ff {i : Int} (h : inr i p.1.length) : FF t (pt p.1 i) := okq_ff (M.okq h).1 (M.okq h).2
theorem Mvd.at {k : Nat} (hk : k < (sgs p).length) : oks p.1.length (pt (sgs p) (k : Int)) := M.sm.at hk
theorem Mvd.en {s : Pt} (h : oks p.1.length s) : en (mvp t p).1 s = (mv t (en p.1 s).1, mv t (en p.1 s).2) := by
  unfold Pure.en mvp
  dsimp only
  rw [pt_mv t h.1, pt_mv t h.2]
theorem Mvd.s1 : s1 (mvp t p) = s1 p := by
  unfold Pure.s1
  rw [mvp_len]
  refine srch_congr (fun i k hi hk => ?_) _ 0 rfl (Nat.zero_le _)
  unfold alk mvp
  dsimp only
  rw [pt_mv t ⟨by omega, by omega⟩, pt_mv t ⟨by omega, by omega⟩, decide_eq_decide]
  exact mv_inj
theorem Mvd.s3 : s3 (mvp t p) = s3 p := by
  unfold Pure.s3
  rw [ens_len, ens_len, mvp_sgs]
  refine srch_congr (fun i k hi hk => ?_) _ 0 rfl (Nat.zero_le _)
  unfold crossing
  rw [sat_ens (mvp t p) hi, sat_ens (mvp t p) hk, sat_ens p hi, sat_ens p hk, mvp_sgs, M.en (M.at hi), M.en (M.at hk)]
  have h1 := M.at hi
  have h2 := M.at hk
  exact congrArg (fun x : Int × Int => decide (x.1 > 1)) (segs_mv (M.ff h1.1) (M.ff h1.2) (M.ff h2.1) (M.ff h2.2))
theorem Mvd.s4 : s4 (mvp t p) = s4 p := by
  unfold Pure.s4
  rw [mvp_len, mvp_sgs]
  refine rct_congr (fun i k hi hk => ?_) _ 0 rfl (Nat.zero_le _)
  unfold insd
  rw [mvp_sgs, M.en (M.at hk)]
  have h2 := M.at hk
  have hi' : inr (i : Int) p.1.length := ⟨by omega, by omega⟩
  rw [decide_eq_decide]
  show Ins (mv t _) (mv t _) (pt (p.1.map (mv t)) (i : Int)) ↔ _
  rw [pt_mv t hi']
  exact ins_mv (M.ff h2.1) (M.ff h2.2) (M.ff hi')
omit M in
theorem mv_sc (t a : Pt) (g : Int) : sc g (mv t a) = mv (sc g t) (sc g a) := by
  unfold sc mv
  refine Prod.ext ?_ ?_ <;> dsimp only <;> rw [Int.mul_add]
theorem sc2_ff {i : Int} (h : inr i p.1.length) : FF (sc 2 t) (sc 2 (pt p.1 i)) := by
  have h1 := (M.okq h).1
  have h2 := (M.okq h).2
  refine ⟨?_, ?_⟩
  · unfold Pure.okq at h1
    unfold Fit sc
    dsimp only
    omega
  · rw [← mv_sc]
    unfold Pure.okq at h2
    unfold Fit sc
    dsimp only
    omega
theorem okl_mv (g : Int) (hg : g = 1 ∨ g = 2) : okl (mvp t p).1 g p.2.1 = okl p.1 g p.2.1 := by
  unfold okl
  rw [Bool.eq_iff_iff, List.all_eq_true, List.all_eq_true]
  refine forall₂_congr fun s hs => ?_
  rw [decide_eq_true_eq, decide_eq_true_eq]
  have hok := M.sm.sl s hs
  unfold OkS
  rw [mvp_len]
  show (_ ∧ pt (p.1.map (mv t)) s.1 ≠ pt (p.1.map (mv t)) s.2 ∧ (Fit (pt (p.1.map (mv t)) s.1) ∧ Fit (pt (p.1.map (mv t)) s.2)) ∧ Fit (sc g (pt (p.1.map (mv t)) s.1)) ∧ Fit (sc g (pt (p.1.map (mv t)) s.2))) ↔ _
  rw [pt_mv t hok.1, pt_mv t hok.2]
  have f1 := M.ff hok.1
  have f2 := M.ff hok.2
  have g1 := sc2_ff M hok.1
  have g2 := sc2_ff M hok.2
  have e : ∀ x, FF t x → (FF (sc 2 t) (sc 2 x)) → (Fit (sc g (mv t x)) ↔ Fit (sc g x)) := by
    intro x h1 h2
    rcases hg with rfl | rfl
    · rw [sc_one, sc_one]; exact ⟨fun _ => h1.1, fun _ => h1.2⟩
    · exact ⟨fun _ => h2.1, fun _ => by rw [mv_sc]; exact h2.2⟩
  rw [e _ f1 g1, e _ f2 g2]
  constructor
  · rintro ⟨a, b, c, d⟩
    exact ⟨a, fun x => b (mv_inj.2 x), ⟨f1.1, f2.1⟩, d⟩
  · rintro ⟨a, b, c, d⟩
    exact ⟨a, fun x => b (mv_inj.1 x), ⟨f1.2, f2.2⟩, d⟩
end
end Go.Proofs.Ytjbimhfhapnjeaa.Pure
end
/- The flaw of what is moved is the same. -/
section
set_option linter.unusedVariables false
set_option linter.unusedSimpArgs false
set_option linter.unusedSectionVars false
namespace Go.Proofs.Ytjbimhfhapnjeaa.Pure
open Go.RowKit Go.Proofs.Ytjbimhfhapnjeaa.AM PL

section
variable {t : Pt} {p : Poly} (M : Mvd t p)
include M
theorem scg_ff {g : Int} (hg : g = 1 ∨ g = 2) {i : Int} (h : inr i p.1.length) : FF (sc g t) (sc g (pt p.1 i)) := by
  rcases hg with rfl | rfl
  · rw [sc_one, sc_one]; exact M.ff h
  · exact sc2_ff M h
theorem sgm_mv (g : Int) : p.2.1.map (sgm (mvp t p).1 g) = (p.2.1.map (sgm p.1 g)).map fun s => (mv (sc g t) s.1, mv (sc g t) s.2) := by
  rw [List.map_map]
  apply List.map_congr_left
  intro s hs
  have hok := M.sm.sl s hs
  show (sc g (pt (p.1.map (mv t)) s.1), sc g (pt (p.1.map (mv t)) s.2)) = (mv (sc g t) (sc g (pt p.1 s.1)), mv (sc g t) (sc g (pt p.1 s.2)))
  rw [pt_mv t hok.1, pt_mv t hok.2, mv_sc, mv_sc]
theorem atv_mv {g : Int} (hg : g = 1 ∨ g = 2) {q : Pt} (hq : FF (sc g t) q) : atv (mvp t p).1 p.2.1 g (mv (sc g t) q) = atv p.1 p.2.1 g q := by
  unfold atv
  rw [okl_mv M g hg, sgm_mv M g, whr_mv hq]
  · by_cases h : okl p.1 g p.2.1 = true
    · rw [if_pos ⟨h, hq.2⟩, if_pos ⟨h, hq.1⟩]
    · rw [if_neg (fun x => h x.1), if_neg (fun x => h x.1)]
  · intro s hs
    obtain ⟨u, hu, rfl⟩ := List.mem_map.1 hs
    have hok := M.sm.sl u hu
    exact ⟨scg_ff M hg hok.1, scg_ff M hg hok.2⟩
theorem midv_mv {a b : Int} (ha : inr a p.1.length) (hb : inr b p.1.length) : midv (mvp t p).1 p.2.1 [a, b] = midv p.1 p.2.1 [a, b] := by
  have o1 : oki p.1 [a, b] = true := by
    rw [oki_cons, oki_cons, decide_eq_true (show OkI p.1 a from ⟨ha, (M.ff ha).1⟩), decide_eq_true (show OkI p.1 b from ⟨hb, (M.ff hb).1⟩)]; rfl
  have o2 : oki (mvp t p).1 [a, b] = true := by
    rw [oki_cons, oki_cons, decide_eq_true (show OkI (mvp t p).1 a from ⟨by rw [mvp_len]; exact ha, by show Fit (pt (p.1.map (mv t)) a); rw [pt_mv t ha]; exact (M.ff ha).2⟩), decide_eq_true (show OkI (mvp t p).1 b from ⟨by rw [mvp_len]; exact hb, by show Fit (pt (p.1.map (mv t)) b); rw [pt_mv t hb]; exact (M.ff hb).2⟩)]; rfl
  have e : sumP (mvp t p).1 (0, 0) [a, b] = mv (sc 2 t) (sumP p.1 (0, 0) [a, b]) := by
    show ((0 + (pt (p.1.map (mv t)) a).1 + (pt (p.1.map (mv t)) b).1, 0 + (pt (p.1.map (mv t)) a).2 + (pt (p.1.map (mv t)) b).2) : Pt) = mv (sc 2 t) (0 + (pt p.1 a).1 + (pt p.1 b).1, 0 + (pt p.1 a).2 + (pt p.1 b).2)
    rw [pt_mv t ha, pt_mv t hb]
    unfold mv sc
    refine Prod.ext ?_ ?_ <;> dsimp only <;> omega
  have q1 := M.okq ha
  have q2 := M.okq hb
  have hff : FF (sc 2 t) (sumP p.1 (0, 0) [a, b]) := by
    show FF (sc 2 t) ((0 + (pt p.1 a).1 + (pt p.1 b).1, 0 + (pt p.1 a).2 + (pt p.1 b).2) : Pt)
    unfold Pure.okq mv at q1 q2
    dsimp only at q1 q2
    refine ⟨?_, ?_⟩
    · unfold Fit
      dsimp only
      omega
    · unfold Fit mv sc
      dsimp only
      omega
  unfold midv
  rw [o1, o2, if_pos rfl, if_pos rfl, e]
  exact atv_mv M (g := 2) (.inr rfl) hff
theorem Mvd.s7 : s7 (mvp t p) = s7 p := by
  unfold Pure.s7
  refine row_congr (fun k hk => ?_) _ 0 rfl (Nat.zero_le _)
  have hk' : k < p.2.2.length := hk
  have hok : oks p.1.length (pt p.2.2 (k : Int)) := by rw [pt_nat hk']; exact M.sm.si _ (List.getElem_mem _)
  unfold outb
  show (!decide ((midv (mvp t p).1 p.2.1 [(pt p.2.2 (k : Int)).1, (pt p.2.2 (k : Int)).2]).1 = 1)) = _
  rw [midv_mv M hok.1 hok.2]
theorem Mvd.s8 : s8 (mvp t p) = s8 p := by
  unfold Pure.s8
  rw [mvp_len]
  refine row_congr (fun k hk => ?_) _ 0 rfl (Nat.zero_le _)
  have hi : inr (k : Int) p.1.length := ⟨by omega, by omega⟩
  unfold strb
  rw [mvp_sgs]
  have e : atv (mvp t p).1 p.2.1 1 (pt (mvp t p).1 (k : Int)) = atv p.1 p.2.1 1 (pt p.1 (k : Int)) := by
    have := atv_mv M (g := 1) (.inl rfl) (q := pt p.1 (k : Int)) (by rw [sc_one]; exact M.ff hi)
    rw [sc_one] at this
    rw [← this]
    congr 1
    exact pt_mv t hi
  show (decide (dgr (sgs p) (k : Int) = 0) && !decide ((atv (mvp t p).1 p.2.1 1 (pt (mvp t p).1 (k : Int))).1 = 1)) = _
  rw [e]
theorem Mvd.flaw : flaw (mvp t p) = flaw p := by
  have e5 : s5 (mvp t p) = s5 p := by unfold s5; rw [mvp_len]; rfl
  have e2 : s2 (mvp t p) = s2 p := rfl
  unfold Pure.flaw rest
  rw [M.s1, e2, M.s3, M.s4, e5, M.s7, M.s8]
  rfl
end
end Go.Proofs.Ytjbimhfhapnjeaa.Pure
end
