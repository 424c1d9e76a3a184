/- The plain law of WithinSplit. -/
import Derived.Test.YtgbgihofehmjpaaW5
set_option linter.unusedVariables false
set_option linter.unusedSimpArgs false
namespace Go.Proofs.Ytgbgihofehmjpaa.Pure
open Go.RowKit Go.Proofs.Ytgbgihofehmjpaa.AM
theorem path_snoc : ∀ (x : Pt) (U : List Pt) (b : Pt), path x (U ++ [b]) = path x U ++ [((x :: U)[U.length]'(by simp), b)]
  | x, [], b => rfl
  | x, u :: U, b => by
    show (x, u) :: path u (U ++ [b]) = (x, u) :: (path u U ++ _)
    rw [path_snoc u U b]; rfl
theorem cyc_cut (p : List Pt) (k : Nat) (hk : k < p.length) (m : Pt) : ∃ U V, cyc p = U ++ (p[k], p[(k + 1) % p.length]'(Nat.mod_lt _ (by omega))) :: V ∧
    cyc (p.take (k + 1) ++ m :: p.drop (k + 1)) = U ++ (p[k], m) :: (m, p[(k + 1) % p.length]'(Nat.mod_lt _ (by omega))) :: V := by
  cases p with
  | nil => simp at hk
  | cons x xs =>
    have hk' : k ≤ xs.length := by simp at hk; omega
    have hr : k < (xs ++ [x]).length := by simp; omega
    have e1 : xs ++ [x] = (xs ++ [x]).take k ++ (xs ++ [x])[k] :: (xs ++ [x]).drop (k + 1) := by
      rw [← List.drop_eq_getElem_cons hr, List.take_append_drop]
    have hb : (x :: xs)[(k + 1) % (x :: xs).length]'(Nat.mod_lt _ (by simp)) = (xs ++ [x])[k] := by
      by_cases e : k = xs.length
      · subst e; simp
      · have : (k + 1) % (x :: xs).length = k + 1 := Nat.mod_eq_of_lt (by simp; omega)
        simp only [this]
        rw [List.getElem_append_left (by omega)]
        simp
    have ht : (xs ++ [x]).take k = xs.take k := by rw [List.take_append_of_le_length hk']
    have hd : (xs ++ [x])[k] :: (xs ++ [x]).drop (k + 1) = xs.drop k ++ [x] := by
      rw [← List.drop_eq_getElem_cons hr, List.drop_append_of_le_length hk']
    have hl : (xs.take k).length = k := by rw [List.length_take]; omega
    have ha : (x :: xs.take k)[(xs.take k).length]'(by simp) = (x :: xs)[k] := by
      simp only [hl]
      cases k with
      | zero => rfl
      | succ j => simp
    refine ⟨path x (xs.take k), path (xs ++ [x])[k] ((xs ++ [x]).drop (k + 1)), ?_, ?_⟩
    · show path x (xs ++ [x]) = _
      rw [hb]
      conv => lhs; rw [e1]
      rw [path_app, ht, path_snoc, ha, List.append_assoc]; rfl
    · show path x ((xs.take k ++ m :: xs.drop k) ++ [x]) = _
      have e2 : (xs.take k ++ m :: xs.drop k) ++ [x] = xs.take k ++ m :: ((xs ++ [x])[k] :: (xs ++ [x]).drop (k + 1)) := by
        rw [hd]; simp
      rw [hb, e2, path_app, path_snoc, ha, List.append_assoc]; rfl
theorem split_core {a b m q : Pt} (h : Ins a b m) (hq : Fit q) : (On a b q ↔ (On a m q ∨ On m b q)) ∧ (¬ On a b q → (Rgt a b q ↔ ¬ (Rgt a m q ↔ Rgt m b q))) := by
  obtain ⟨fa, fb, fm⟩ := fit_of h
  have hab : a ≠ b := h.1.1
  have ham : a ≠ m := fun e => h.2.1 e.symm
  have hmb : m ≠ b := fun e => h.2.2 e
  constructor
  · rw [on_iff hab ⟨fa, fb, hq⟩, on_iff ham ⟨fa, fm, hq⟩, on_iff hmb ⟨fm, fb, hq⟩]
    constructor
    · rintro (x | x | x)
      · rcases ins_split h x with y | y | y
        · exact .inl (.inr (.inr y))
        · exact .inl (.inl y)
        · exact .inr (.inl y)
      · exact .inl (.inr (.inl x))
      · exact .inr (.inr (.inr x))
    · rintro ((x | x | x) | (x | x | x))
      · exact .inl (ins_trans h x)
      · exact .inr (.inl x)
      · exact .inl (x ▸ h)
      · exact .inl (ins_swap.1 (ins_trans (ins_swap.1 h) (ins_swap.1 x)))
      · exact .inl (x ▸ h)
      · exact .inr (.inr x)
  · intro _
    obtain ⟨N, M, hp⟩ := par_of h
    have hN : 0 < N := by have := hp.1; have := hp.2.1; omega
    have s1 : sg (crs a m q) = sg (crs a b q) := sg_scale hN hp.1 (crs_first hp q)
    have s2 : sg (crs m b q) = sg (crs a b q) := sg_scale hN (show 0 < N - M by have := hp.2.1; omega) (crs_last hp q)
    have hs : ∀ x : Int, (0 < x ∧ sg x = 1) ∨ (x = 0 ∧ sg x = 0) ∨ (x < 0 ∧ sg x = -1) := by intro x; unfold sg; (repeat' split) <;> omega
    have k1 := hs (crs a m q)
    have k2 := hs (crs m b q)
    have k3 := hs (crs a b q)
    rw [s1] at k1
    rw [s2] at k2
    have cv := conv (by have := hp.1; omega) (by have := hp.2.1; omega) hN hp.2.2.2
    unfold Rgt
    generalize crs a m q = c1 at *
    generalize crs m b q = c2 at *
    generalize crs a b q = c3 at *
    generalize sg c3 = z at *
    rcases k3 with k3 | k3 | k3 <;> rcases cv with cv | cv <;> omega
theorem okG_ins {a b m : Pt} (h : Ins a b m) : OkG 1 (a, b) ∧ OkG 1 (a, m) ∧ OkG 1 (m, b) := by
  obtain ⟨fa, fb, fm⟩ := fit_of h
  unfold OkG
  simp only [sc_one]
  exact ⟨⟨h.1.1, ⟨fa, fb⟩, fa, fb⟩, ⟨fun e => h.2.1 e.symm, ⟨fa, fm⟩, fa, fm⟩, ⟨h.2.2, ⟨fm, fb⟩, fm, fb⟩⟩
theorem cut_same {U V : List Sg} {a b m q : Pt} (h : Ins a b m) : atg 1 (U ++ (a, m) :: (m, b) :: V) q = atg 1 (U ++ (a, b) :: V) q := by
  obtain ⟨o1, o2, o3⟩ := okG_ins h
  unfold atg
  have e : okg 1 (U ++ (a, m) :: (m, b) :: V) = okg 1 (U ++ (a, b) :: V) := by
    unfold okg
    rw [List.all_append, List.all_append, List.all_cons, List.all_cons, List.all_cons, decide_eq_true o1, decide_eq_true o2, decide_eq_true o3]; rfl
  rw [e, scl_one, scl_one]
  by_cases hq : okg 1 (U ++ (a, b) :: V) = true ∧ Fit q
  · rw [if_pos hq, if_pos hq]
    obtain ⟨c1, c2⟩ := split_core h hq.2
    unfold whr
    rw [rim_app, rim_app, par_app, par_app, rim_cons, rim_cons, rim_cons, par_cons, par_cons, par_cons]
    have e1 : decide (On a b q) = (decide (On a m q) || decide (On m b q)) := by
      rw [Bool.eq_iff_iff]; simp only [decide_eq_true_eq, Bool.or_eq_true]; exact c1
    have e2 : (rim U q || (decide (On a m q) || (decide (On m b q) || rim V q))) = (rim U q || (decide (On a b q) || rim V q)) := by rw [e1, Bool.or_assoc]
    dsimp only
    rw [e2]
    by_cases ho : On a b q
    · rw [decide_eq_true ho]; simp
    · have e3 : xor (decide (Rgt a m q)) (decide (Rgt m b q)) = decide (Rgt a b q) := by
        have := c2 ho
        by_cases r1 : Rgt a m q <;> by_cases r2 : Rgt m b q <;> by_cases r3 : Rgt a b q <;> simp [r1, r2, r3] at this ⊢
      rw [← e3, Bool.xor_assoc]
  · rw [if_neg hq, if_neg hq]
theorem crs_sc (g : Int) (a b q : Pt) : crs (sc g a) (sc g b) (sc g q) = (g * g) * crs a b q := by unfold crs sc; grind
theorem sg_sq {g x : Int} (hg : 0 < g) : sg ((g * g) * x) = sg x := sg_scale (N := 1) (by omega) (Int.mul_pos hg hg) (by rw [Int.one_mul])
theorem mul_le_iff {g x y : Int} (hg : 0 < g) : g * x ≤ g * y ↔ x ≤ y := Int.mul_le_mul_left hg
theorem mul_lt_iff {g x y : Int} (hg : 0 < g) : g * x < g * y ↔ x < y := Int.mul_lt_mul_left hg
/-- All made so much greater. -/
theorem whr_scl {g : Int} (hg : 0 < g) (L : List Sg) (q : Pt) (hk : okg g L = true) (hq : Fit q) (hq' : Fit (sc g q)) : whr (scl g L) (sc g q) = whr L q := by
  have hs : ∀ s ∈ L, OkG g s := fun s hs => of_decide_eq_true (List.all_eq_true.1 hk s hs)
  have on : ∀ s ∈ L, (On (sc g s.1) (sc g s.2) (sc g q) ↔ On s.1 s.2 q) := by
    intro s h
    obtain ⟨n1, ⟨f1, f2⟩, f3, f4⟩ := hs s h
    have hc : crs (sc g s.1) (sc g s.2) (sc g q) = 0 ↔ crs s.1 s.2 q = 0 := by rw [← sg_zero, crs_sc, sg_sq hg, sg_zero]
    have hb : ∀ x y z : Int, Btw (g * x) (g * y) (g * z) ↔ Btw x y z := by intro x y z; unfold Btw; simp only [mul_le_iff hg]
    have hn : sc g s.1 ≠ sc g s.2 := by
      intro e
      unfold sc at e
      rw [Prod.mk.injEq] at e
      exact n1 (Prod.ext (Int.eq_of_mul_eq_mul_left (by omega) e.1) (Int.eq_of_mul_eq_mul_left (by omega) e.2))
    unfold On
    rw [hc]
    have h1 : Btw (sc g s.1).1 (sc g s.2).1 (sc g q).1 ↔ Btw s.1.1 s.2.1 q.1 := hb _ _ _
    have h2 : Btw (sc g s.1).2 (sc g s.2).2 (sc g q).2 ↔ Btw s.1.2 s.2.2 q.2 := hb _ _ _
    rw [h1, h2]
    exact ⟨fun x => ⟨n1, ⟨f1, f2, hq⟩, x.2.2⟩, fun x => ⟨hn, ⟨f3, f4, hq'⟩, x.2.2⟩⟩
  have rg : ∀ s ∈ L, (Rgt (sc g s.1) (sc g s.2) (sc g q) ↔ Rgt s.1 s.2 q) := by
    intro s h
    have hc1 : 0 < crs (sc g s.1) (sc g s.2) (sc g q) ↔ 0 < crs s.1 s.2 q := by
      have h1 := @sg_sq g (crs s.1 s.2 q) hg
      rw [crs_sc]
      revert h1
      generalize (g * g) * crs s.1 s.2 q = u
      intro h1
      unfold sg at h1
      (repeat' split at h1) <;> omega
    have hc2 : crs (sc g s.1) (sc g s.2) (sc g q) < 0 ↔ crs s.1 s.2 q < 0 := by
      have h1 := @sg_sq g (crs s.1 s.2 q) hg
      rw [crs_sc]
      revert h1
      generalize (g * g) * crs s.1 s.2 q = u
      intro h1
      unfold sg at h1
      (repeat' split at h1) <;> omega
    unfold Rgt
    rw [hc1, hc2]
    unfold sc
    simp only [mul_le_iff hg, mul_lt_iff hg]
  have e1 : rim (scl g L) (sc g q) = rim L q := by
    unfold rim scl
    rw [List.any_map, Bool.eq_iff_iff, List.any_eq_true, List.any_eq_true]
    have key : ∀ s ∈ L, ((Function.comp (fun s : Sg => decide (On s.1 s.2 (sc g q))) fun s : Sg => (sc g s.1, sc g s.2)) s = true ↔ decide (On s.1 s.2 q) = true) := by
      intro s h
      simp only [Function.comp, decide_eq_true_eq]
      exact on s h
    exact ⟨fun ⟨s, h1, h2⟩ => ⟨s, h1, (key s h1).1 h2⟩, fun ⟨s, h1, h2⟩ => ⟨s, h1, (key s h1).2 h2⟩⟩
  have e2 : par (scl g L) (sc g q) = par L q := by
    unfold scl
    rw [par_xs, xs_map, par_xs]
    exact xs_congr L fun s h => by dsimp only; rw [decide_eq_decide]; exact rg s h
  unfold whr
  rw [e1, e2]
theorem okg_less {g : Int} {L : List Sg} (h : okg g L = true) : okg 1 L = true := by
  unfold okg at *
  rw [List.all_eq_true] at *
  intro s hs
  have := of_decide_eq_true (h s hs)
  refine decide_eq_true ⟨this.1, this.2.1, ?_⟩
  simp only [sc_one]
  exact this.2.1
theorem mid_self {p : List Pt} {q : Pt} (r : List Int) (g : Int) (hg : 0 < g) (hr : (r.length : Int) = g) (hs : sumP (p ++ [q]) (0, 0) r = sc g q) (hi : ∀ i ∈ r, i = (p.length : Int)) (hr0 : r ≠ []) (h : (midv (p ++ [q]) (ringv p.length) r).2 = 0) :
    (midv (p ++ [q]) (ringv p.length) r).1 = (atg 1 (cyc p) q).1 := by
  unfold midv at h ⊢
  by_cases c : oki (p ++ [q]) r = true
  · rw [if_pos c] at h ⊢
    rw [hr, hs, atv_ring] at h ⊢
    have hq : Fit q := by
      obtain ⟨i, hi'⟩ := List.exists_mem_of_ne_nil _ hr0
      have h1 := of_decide_eq_true (List.all_eq_true.1 c i hi')
      have h2 := h1.2
      rw [hi i hi', pt_get (by simp)] at h2
      simpa using h2
    unfold atg at h ⊢
    by_cases d : okg g (cyc p) = true ∧ Fit (sc g q)
    · rw [if_pos d, if_pos ⟨okg_less d.1, hq⟩, scl_one]
      exact whr_scl hg _ _ d.1 hq d.2
    · rw [if_neg d] at h; simp at h
  · rw [if_neg c] at h; simp at h
theorem split_law (m : Nat) (p : List Pt) (at' : Int) (mm q : Pt) : g_parquetlaw09_WithinSplit (m + 400) p at' mm q = some true := by
  unfold g_parquetlaw09_WithinSplit b_parquetlaw09_WithinSplit
  rw [known_f]
  simp only [meet, bnd_s, etaP]
  by_cases h1 : (p.length : Int) > 60
  · rw [bif_T h1]; rfl
  rw [bif_F h1]
  by_cases h2 : (p.length : Int) < 3
  · rw [decide_eq_true h2]; rfl
  rw [decide_eq_false h2, cF]
  have hu : IntKind.wrap .u64 (p.length : Int) = (p.length : Int) := u64_id (by omega) (by omega)
  have hk : 0 ≤ IntKind.wrap .u64 at' := by rw [u64_mod]; omega
  obtain ⟨k, hn, hn1⟩ : ∃ k : Nat, w64 ((IntKind.wrap .u64 at').tmod (IntKind.wrap .u64 (p.length : Int))) = (k : Int) ∧ k < p.length := by
    rw [hu, Int.tmod_eq_emod_of_nonneg hk]
    have a1 := Int.emod_nonneg (IntKind.wrap .u64 at') (show (p.length : Int) ≠ 0 by omega)
    have a2 := Int.emod_lt_of_pos (IntKind.wrap .u64 at') (show 0 < (p.length : Int) by omega)
    generalize IntKind.wrap .u64 at' % (p.length : Int) = z at a1 a2
    rw [w64_id (x := z) (by omega) (by omega)]
    exact ⟨z.toNat, by omega, by omega⟩
  rw [hn, hu, w64_id (x := (k : Int) + 1) (by omega) (by omega), w64_id (x := (p.length : Int) + 1) (by omega) (by omega), tmodN]
  have hm := Nat.mod_lt (k + 1) (show p.length > 0 by omega)
  have g1 : (!(decide ((p.length : Int) = 0))) = true := by rw [decide_eq_false (by omega)]; rfl
  have g2 : inb (k : Int) p.length = true := inb_t ⟨by omega, by omega⟩
  have g3 : inb (((k + 1) % p.length : Nat) : Int) p.length = true := inb_t ⟨Int.natCast_nonneg _, Int.ofNat_lt.2 hm⟩
  have g4 : decide (0 ≤ (k : Int) + 1) = true := decide_eq_true (by omega)
  have g5 : decide ((k : Int) + 1 ≤ (p.length : Int)) = true := decide_eq_true (by omega)
  have t1 : tkL p ((k : Int) + 1) = p.take (k + 1) := by unfold tkL; congr 1
  have t2 : dpL p ((k : Int) + 1) = p.drop (k + 1) := by unfold dpL; congr 1
  simp only [g1, g2, g3, g4, g5, gT, t1, t2, rd_get _ p k hn1, rd_get _ p _ hm, etaP]
  rw [show g_parquetref04_Inside (m + 400) p[k] p[(k + 1) % p.length] mm = some (decide (Ins p[k] p[(k + 1) % p.length] mm)) from rInside_f (m + 300) _ _ _, bnd_s]
  by_cases hi : Ins p[k] p[(k + 1) % p.length] mm
  case neg => rw [decide_eq_false hi]; rfl
  rw [decide_eq_true hi, Bool.not_true, cF]
  obtain ⟨U, V, u1, u2⟩ := cyc_cut p k hn1 mm
  have lt : (p.take (k + 1)).length = k + 1 := by rw [List.length_take]; omega
  have ld : (p.drop (k + 1)).length = p.length - (k + 1) := by rw [List.length_drop]
  have er : (p.take (k + 1) ++ [mm]) ++ p.drop (k + 1) = p.take (k + 1) ++ mm :: p.drop (k + 1) := by simp
  rw [er]
  have lR : (p.take (k + 1) ++ mm :: p.drop (k + 1)).length = p.length + 1 := by simp [lt, ld]; omega
  rw [gd_t (by unfold few; simp; omega), gd_t (by unfold few; simp; omega), gd_t (by unfold few; simp; omega), gd_t (by unfold few; rw [lR]; simp; omega), gd_t (by unfold few; simp; omega), gd_t (by unfold few; simp; omega), ring_f m p (by omega), bnd_s]
  rw [At_f m (p ++ [q]) _ q (by rw [ringv_len]; omega), bnd_s, atv_ring, gd_t (decide_eq_true (by omega)), gd_t (decide_eq_true (by rw [List.length_append, lR]; simp; omega))]
  have tk : tkL ((p.take (k + 1) ++ mm :: p.drop (k + 1)) ++ [q]) ((p.length : Int) + 1) = p.take (k + 1) ++ mm :: p.drop (k + 1) := by
    unfold tkL
    have : ((p.length : Int) + 1).toNat = (p.take (k + 1) ++ mm :: p.drop (k + 1)).length := by rw [lR]; omega
    rw [this, List.take_left]
  rw [tk, ring_f m _ (by rw [lR]; omega), bnd_s, At_f m _ _ q (by rw [ringv_len, lR]; omega), bnd_s, atv_ring, u2, u1, cut_same hi, ← u1]
  rw [decide_eq_true (show (atg 1 (cyc p) q).1 = (atg 1 (cyc p) q).1 from rfl), decide_eq_true (show (atg 1 (cyc p) q).2 = (atg 1 (cyc p) q).2 from rfl)]
  simp only [Bool.not_true, cF, bnd_s]
  rw [Halfway_f m _ _ _ _ (by rw [ringv_len]; omega), Third_f m _ _ _ _ _ (by rw [ringv_len]; omega)]
  simp only [bnd_s]
  have pq : pt (p ++ [q]) (p.length : Int) = q := by rw [pt_get (by simp)]; simp
  have e1 : (midv (p ++ [q]) (ringv p.length) [(p.length : Int), (p.length : Int)]).2 = 0 → _ := mid_self (p := p) (q := q) [(p.length : Int), (p.length : Int)] 2 (by omega) (by simp) (by simp only [sumP, pq]; unfold sc; exact Prod.ext (by dsimp only; omega) (by dsimp only; omega)) (by simp) (by simp)
  have e2 : (midv (p ++ [q]) (ringv p.length) [(p.length : Int), (p.length : Int), (p.length : Int)]).2 = 0 → _ := mid_self (p := p) (q := q) [(p.length : Int), (p.length : Int), (p.length : Int)] 3 (by omega) (by simp) (by simp only [sumP, pq]; unfold sc; exact Prod.ext (by dsimp only; omega) (by dsimp only; omega)) (by simp) (by simp)
  by_cases c1 : (midv (p ++ [q]) (ringv p.length) [(p.length : Int), (p.length : Int)]).2 = 0
  · rw [decide_eq_true c1, e1 c1]
    by_cases c2 : (midv (p ++ [q]) (ringv p.length) [(p.length : Int), (p.length : Int), (p.length : Int)]).2 = 0
    · rw [decide_eq_true c2, e2 c2]; simp only [decide_true, cT, cF, Bool.not_true]
    · rw [decide_eq_false c2]; simp only [decide_true, cT, cF, Bool.not_true, Bool.not_false]
  · rw [decide_eq_false c1]
    by_cases c2 : (midv (p ++ [q]) (ringv p.length) [(p.length : Int), (p.length : Int), (p.length : Int)]).2 = 0
    · rw [decide_eq_true c2, e2 c2]; simp only [decide_true, cT, cF, Bool.not_true, Bool.not_false]
    · rw [decide_eq_false c2]; simp only [decide_true, cT, cF, Bool.not_true, Bool.not_false]
theorem WithinSplit (x0 : (List (Int × Int))) (x1 : Int) (x2 : (Int × Int)) (x3 : (Int × Int)) (g0 : Kd.good (.sl (.pair kI kI)) x0) (g1 : Kd.good kI x1) (g2 : Kd.good (.pair kI kI) x2) (g3 : Kd.good (.pair kI kI) x3) : ∃ k, g_parquetlaw09_WithinSplit k x0 x1 x2 x3 = some true :=
  ⟨400, by have := split_law 0 x0 x1 x2 x3; rwa [Nat.zero_add] at this⟩
end Go.Proofs.Ytgbgihofehmjpaa.Pure
