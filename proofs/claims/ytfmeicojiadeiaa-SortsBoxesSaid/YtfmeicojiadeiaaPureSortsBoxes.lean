/- The plain law of SortsBoxes. -/
import Derived.Test.YtfmeicojiadeiaaGa0
set_option linter.unusedVariables false
set_option linter.unusedSimpArgs false
namespace Go.Proofs.Ytfmeicojiadeiaa.Pure
open Go.RowKit Go.Proofs.Ytfmeicojiadeiaa.AM
theorem bif_t {α : Type} {b : Bool} {x y : α} (h : b = true) : (bif b then x else y) = x := by rw [h]; rfl
theorem bif_f {α : Type} {b : Bool} {x y : α} (h : b = false) : (bif b then x else y) = y := by rw [h]; rfl
theorem bif_T {α : Type} {p : Prop} [Decidable p] {x y : α} (h : p) : (bif decide p then x else y) = x := bif_t (decide_eq_true h)
theorem bif_F {α : Type} {p : Prop} [Decidable p] {x y : α} (h : ¬ p) : (bif decide p then x else y) = y := bif_f (decide_eq_false h)
theorem gd_t {ρ : Type} {b : Bool} {x : Option ρ} (h : b = true) : gd b x = x := by rw [h]; rfl
theorem gT {ρ : Type} (x : Option ρ) : gd true x = x := rfl
theorem bnd_s {α ρ : Type} (a : α) (k : α → Option ρ) : bnd (some a) k = k a := rfl
theorem loop_s {α ρ : Type} (f : α → (α → Option ρ) → Option ρ) (n : Nat) (x : α) : loopN f (n + 1) x = f x (loopN f n) := rfl
theorem cT {α : Type} (x y : α) : (bif true then x else y) = x := rfl
theorem cF {α : Type} (x y : α) : (bif false then x else y) = y := rfl
theorem inb_t {i : Int} {n : Nat} (h : 0 ≤ i ∧ i < n) : inb i n = true := by unfold inb; simp [h.1, h.2]
theorem w64_id {x : Int} (h0 : -9223372036854775808 ≤ x) (h1 : x ≤ 9223372036854775807) : w64 x = x := by
  have : w64 x = (x + 9223372036854775808) % 18446744073709551616 - 9223372036854775808 := by
    simp only [w64, IntKind.wrap, IntKind.signed, IntKind.bits]
    simp
    omega
  omega
theorem rd_get {α : Type} (d : α) (l : List α) (i : Nat) (h : i < l.length) : rdD d l (i : Int) = l[i] := by
  simp [rdD, List.getD_eq_getElem?_getD, h]
theorem loop_list {α ρ : Type} {f : α → (α → Option ρ) → Option ρ} (st : Nat → α) (n : Nat) (P : Nat → Option ρ) (h0 : ∀ next, f (st n) next = P n) (hs : ∀ i, i < n → ∀ next, next (st (i + 1)) = P (i + 1) → f (st i) next = P i) :
    ∀ (q i : Nat), i ≤ n → n - i < q → loopN f q (st i) = P i
  | 0, i, _, h => by omega
  | q + 1, i, hi, h => by
    rw [loop_s]
    by_cases e : i = n
    · subst e; exact h0 _
    · exact hs i (by omega) _ (loop_list st n P h0 hs q (i + 1) (by omega) (by omega))
abbrev Pt : Type := Int × Int
theorem etaP (a : Pt) : (a.1, a.2) = a := rfl
theorem eqP {a b : Pt} : ((decide (a.1 = b.1)) && (decide (a.2 = b.2))) = decide (a = b) := by
  rw [Bool.eq_iff_iff]; cases a; cases b; simp
theorem mn_min (a b : Int) : mnI a b = min a b := by unfold mnI; split <;> omega
theorem mx_max (a b : Int) : mxI a b = max a b := by unfold mxI; split <;> omega
/-- The least of a row of places, by a number of theirs. -/
def Least (g : Pt → Int) (l : List Pt) (v : Int) : Prop := (∀ x ∈ l, v ≤ g x) ∧ ∃ x ∈ l, g x = v
theorem Least.unique {g : Pt → Int} {l : List Pt} {v w : Int} (h : Least g l v) (k : Least g l w) : v = w := by
  obtain ⟨h1, x, hx, rfl⟩ := h
  obtain ⟨k1, y, hy, rfl⟩ := k
  have := h1 y hy
  have := k1 x hx
  omega
def lo2 (a q : Pt) : Pt := (min a.1 q.1, min a.2 q.2)
def hi2 (a q : Pt) : Pt := (max a.1 q.1, max a.2 q.2)
def low (l : List Pt) : Pt := match l with
  | [] => (0, 0)
  | x :: r => (x :: r).foldl lo2 x
def high (l : List Pt) : Pt := match l with
  | [] => (0, 0)
  | x :: r => (x :: r).foldl hi2 x
theorem fold_least (g : Pt → Int) (f : Pt → Pt → Pt) (hf : ∀ a q, g (f a q) = min (g a) (g q)) : ∀ (l : List Pt) (x : Pt), (g (l.foldl f x) ≤ g x) ∧ (∀ y ∈ l, g (l.foldl f x) ≤ g y) ∧ (g (l.foldl f x) = g x ∨ ∃ y ∈ l, g y = g (l.foldl f x))
  | [], x => by simp
  | a :: r, x => by
    obtain ⟨h1, h2, h3⟩ := fold_least g f hf r (f x a)
    rw [hf] at h1 h3
    simp only [List.foldl_cons]
    refine ⟨by omega, fun y hy => ?_, ?_⟩
    · rcases List.mem_cons.1 hy with rfl | hy
      · omega
      · exact h2 y hy
    · rcases h3 with h3 | ⟨y, hy, h3⟩
      · by_cases q : g x ≤ g a
        · left; omega
        · exact .inr ⟨a, List.mem_cons_self, by omega⟩
      · exact .inr ⟨y, List.mem_cons_of_mem _ hy, h3⟩
theorem least_fold (g : Pt → Int) (f : Pt → Pt → Pt) (hf : ∀ a q, g (f a q) = min (g a) (g q)) (x : Pt) (r : List Pt) : Least g (x :: r) (g ((x :: r).foldl f x)) := by
  obtain ⟨h1, h2, h3⟩ := fold_least g f hf (x :: r) x
  exact ⟨h2, h3.elim (fun h => ⟨x, List.mem_cons_self, h.symm⟩) fun ⟨y, hy, h⟩ => ⟨y, hy, h⟩⟩
/-- The four sides. -/
structure Sides (l : List Pt) (a b : Pt) : Prop where
  x0 : Least (fun p => p.1) l a.1
  y0 : Least (fun p => p.2) l a.2
  x1 : Least (fun p => -p.1) l (-b.1)
  y1 : Least (fun p => -p.2) l (-b.2)
theorem sides {l : List Pt} (h : l ≠ []) : Sides l (low l) (high l) := by
  cases l with
  | nil => exact absurd rfl h
  | cons x r =>
    exact ⟨least_fold _ lo2 (fun a q => rfl) x r, least_fold _ lo2 (fun a q => rfl) x r, least_fold (fun p => -p.1) hi2 (fun a q => by simp only [hi2]; omega) x r, least_fold (fun p => -p.2) hi2 (fun a q => by simp only [hi2]; omega) x r⟩
theorem Sides.unique {l : List Pt} {a b c d : Pt} (h : Sides l a b) (k : Sides l c d) : a = c ∧ b = d := by
  refine ⟨Prod.ext (h.x0.unique k.x0) (h.y0.unique k.y0), Prod.ext ?_ ?_⟩
  · have := h.x1.unique k.x1; omega
  · have := h.y1.unique k.y1; omega
theorem least_join (g : Pt → Int) {p q r : List Pt} {u v w : Int} (hp : Least g p u) (hq : Least g q v) (hr : Least g r w) (h1 : ∀ x ∈ r, (∃ y ∈ p ++ q, g y = g x)) (h2 : ∃ x ∈ r, g x = u) (h3 : ∃ x ∈ r, g x = v) : Least g (p ++ q) w := by
  refine ⟨fun x hx => ?_, ?_⟩
  · rcases List.mem_append.1 hx with hx | hx
    · have := hp.1 x hx
      obtain ⟨y, hy, e⟩ := h2
      have := hr.1 y hy
      omega
    · have := hq.1 x hx
      obtain ⟨y, hy, e⟩ := h3
      have := hr.1 y hy
      omega
  · obtain ⟨x, hx, e⟩ := hr.2
    obtain ⟨y, hy, e'⟩ := h1 x hx
    exact ⟨y, hy, by omega⟩
theorem sides_join {p q : List Pt} {a b c d e f : Pt} (hp : Sides p a b) (hq : Sides q c d) (hr : Sides [a, b, c, d] e f) : Sides (p ++ q) e f := by
  have ax : ∀ {g : Pt → Int} {l l' : List Pt} {v : Int}, Least g l v → (∃ y ∈ l ++ l', g y = v) ∧ (∃ y ∈ l' ++ l, g y = v) := by
    intro g l l' v h
    obtain ⟨x, hx, e⟩ := h.2
    exact ⟨⟨x, List.mem_append_left _ hx, e⟩, ⟨x, List.mem_append_right _ hx, e⟩⟩
  have ng : ∀ {g : Pt → Int} {l : List Pt} {v : Int}, (∃ y ∈ l, -(g y) = -v) → ∃ y ∈ l, g y = v := by
    rintro g l v ⟨y, hy, e⟩; exact ⟨y, hy, by omega⟩
  have gn : ∀ {g : Pt → Int} {l : List Pt} {v : Int}, (∃ y ∈ l, g y = v) → ∃ y ∈ l, -(g y) = -v := by
    rintro g l v ⟨y, hy, e⟩; exact ⟨y, hy, by omega⟩
  refine ⟨least_join _ hp.x0 hq.x0 hr.x0 ?_ ⟨a, by simp, rfl⟩ ⟨c, by simp, rfl⟩, least_join _ hp.y0 hq.y0 hr.y0 ?_ ⟨a, by simp, rfl⟩ ⟨c, by simp, rfl⟩, least_join _ hp.x1 hq.x1 hr.x1 ?_ ⟨b, by simp, rfl⟩ ⟨d, by simp, rfl⟩, least_join _ hp.y1 hq.y1 hr.y1 ?_ ⟨b, by simp, rfl⟩ ⟨d, by simp, rfl⟩⟩
  · intro x hx
    simp only [List.mem_cons, List.not_mem_nil, or_false] at hx
    rcases hx with rfl | rfl | rfl | rfl
    · exact (ax hp.x0).1
    · exact ng (g := fun p => p.1) (ax hp.x1).1
    · exact (ax hq.x0).2
    · exact ng (g := fun p => p.1) (ax hq.x1).2
  · intro x hx
    simp only [List.mem_cons, List.not_mem_nil, or_false] at hx
    rcases hx with rfl | rfl | rfl | rfl
    · exact (ax hp.y0).1
    · exact ng (g := fun p => p.2) (ax hp.y1).1
    · exact (ax hq.y0).2
    · exact ng (g := fun p => p.2) (ax hq.y1).2
  · intro x hx
    simp only [List.mem_cons, List.not_mem_nil, or_false] at hx
    rcases hx with rfl | rfl | rfl | rfl
    · exact gn (g := fun p => p.1) (ax hp.x0).1
    · exact (ax hp.x1).1
    · exact gn (g := fun p => p.1) (ax hq.x0).2
    · exact (ax hq.x1).2
  · intro x hx
    simp only [List.mem_cons, List.not_mem_nil, or_false] at hx
    rcases hx with rfl | rfl | rfl | rfl
    · exact gn (g := fun p => p.2) (ax hp.y0).1
    · exact (ax hp.y1).1
    · exact gn (g := fun p => p.2) (ax hq.y0).2
    · exact (ax hq.y1).2
theorem Box_f (m : Nat) (l : List Pt) (hl : l.length ≤ 620) : g_sorts_Box (m + 700) l = some (low l, high l, decide (l ≠ [])) := by
  unfold g_sorts_Box
  cases l with
  | nil => rfl
  | cons x r =>
    have hlen : (x :: r).length = r.length + 1 := rfl
    rw [bif_F (by rw [hlen]; omega), gd_t (inb_t ⟨by omega, by rw [hlen]; omega⟩), gd_t (inb_t ⟨by omega, by rw [hlen]; omega⟩)]
    have e0 : rdD (0, 0) (x :: r) 0 = x := rfl
    rw [e0]
    refine loop_list (fun i => ((0, 0), (0, 0), ((x :: r).take i).foldl lo2 x, ((x :: r).take i).foldl hi2 x, x :: r, ((x :: r).length : Int), (i : Int))) (x :: r).length (fun _ => some (low (x :: r), high (x :: r), decide (x :: r ≠ []))) ?_ ?_ (m + 700) 0 (Nat.zero_le _) (by omega)
    · intro next
      dsimp only
      rw [bif_F (by omega), List.take_length]
      rfl
    · intro i hi next hn
      dsimp only at hn ⊢
      rw [bif_T (by omega), gd_t (inb_t ⟨by omega, by omega⟩), w64_id (by omega) (by omega), rd_get _ _ i hi, mn_min, mn_min, mx_max, mx_max]
      rw [List.take_succ_eq_append_getElem hi, List.foldl_append, List.foldl_append] at hn
      exact hn
def has (g : Pt → Int) (v : Int) (l : List Pt) : Bool := l.any fun x => decide (g x = v)
theorem has_step (g : Pt → Int) (v : Int) (l : List Pt) (i : Nat) (h : i < l.length) : has g v (l.take (i + 1)) = (has g v (l.take i) || decide (g l[i] = v)) := by
  unfold has
  rw [List.take_succ_eq_append_getElem h, List.any_append]
  simp
theorem has_or {ρ : Type} (b : Bool) (x : Bool) (f : Bool → Option ρ) : (bif b then f true else f x) = f (b || x) := by cases b <;> rfl
theorem boxes_law (p q : List Pt) : g_parquetlaw07_SortsBoxes 700 p q = some true := by
  have kn : g_parquetlaw07_known 700 = some true := by decide +kernel
  have bx : ∀ l : List Pt, l.length ≤ 620 → g_sorts_Box 700 l = some (low l, high l, decide (l ≠ [])) := fun l h => Box_f 0 l h
  unfold g_parquetlaw07_SortsBoxes b_parquetlaw07_SortsBoxes
  rw [kn]
  simp only [meet, bnd_s, etaP]
  by_cases h1 : (p.length : Int) > 300
  · rw [bif_T h1]; rfl
  rw [bif_F h1]
  by_cases h2 : (q.length : Int) > 300
  · rw [decide_eq_true h2]; rfl
  rw [decide_eq_false h2, cF, bx p (by omega), bnd_s]
  have e1 : decide ((p.length : Int) > 0) = decide (p ≠ []) := by
    rw [decide_eq_decide]; cases p <;> simp
  rw [e1, beq_self_eq_true, Bool.not_true, cF]
  refine loop_list (fun i => (p, q, low p, high p, decide (p ≠ []), has (fun x => x.1) (low p).1 (p.take i), has (fun x => x.1) (high p).1 (p.take i), has (fun x => x.2) (low p).2 (p.take i), has (fun x => x.2) (high p).2 (p.take i), (i : Int))) p.length (fun _ => some true) ?_ ?_ 700 0 (Nat.zero_le _) (by omega)
  · intro next
    dsimp only
    rw [bif_F (by omega), List.take_length]
    -- what stands behind the loop
    have fin : ∀ X : Bool → Option Bool, (p ≠ [] → has (fun x => x.1) (low p).1 p = true ∧ has (fun x => x.1) (high p).1 p = true ∧ has (fun x => x.2) (low p).2 p = true ∧ has (fun x => x.2) (high p).2 p = true) := by
      intro _ hp
      have hs := sides hp
      refine ⟨?_, ?_, ?_, ?_⟩
      · obtain ⟨x, hx, e⟩ := hs.x0.2; exact List.any_eq_true.2 ⟨x, hx, decide_eq_true e⟩
      · obtain ⟨x, hx, e⟩ := hs.x1.2; exact List.any_eq_true.2 ⟨x, hx, decide_eq_true (by dsimp only at e ⊢; omega)⟩
      · obtain ⟨x, hx, e⟩ := hs.y0.2; exact List.any_eq_true.2 ⟨x, hx, decide_eq_true e⟩
      · obtain ⟨x, hx, e⟩ := hs.y1.2; exact List.any_eq_true.2 ⟨x, hx, decide_eq_true (by dsimp only at e ⊢; omega)⟩
    have f1 : few p.length = true := by unfold few; simp; omega
    have f2 : few (p.length + q.length) = true := by unfold few; simp; omega
    have b4 := bx [low p, high p, low q, high q] (by simp)
    rw [bx q (by omega), bx (p ++ q) (by simp; omega)]
    simp only [f1, f2, gT, bnd_s, etaP, b4]
    by_cases hp : p = []
    · subst hp
      simp only [ne_eq, not_true, decide_false, cF, Bool.not_false, cT, List.nil_append, beq_self_eq_true]
    · obtain ⟨k1, k2, k3, k4⟩ := fin (fun _ => none) hp
      rw [k1, k2, k3, k4, decide_eq_true hp]
      simp only [cT, Bool.not_true, cF]
      by_cases hq : q = []
      · subst hq
        simp only [ne_eq, not_true, decide_false, Bool.not_false, cT, List.append_nil, hp, not_false_eq_true, decide_true, beq_self_eq_true]
      · have hpq : p ++ q ≠ [] := by simp [hp]
        rw [decide_eq_true hq, decide_eq_true hpq]
        obtain ⟨u1, u2⟩ := (sides hpq).unique (sides_join (sides hp) (sides hq) (sides (l := [low p, high p, low q, high q]) (by simp)))
        simp only [eqP, Bool.not_true, cF]
        rw [decide_eq_true u1, decide_eq_true u2]
        rfl
  · intro i hi next hn
    dsimp only at hn ⊢
    have hp : p ≠ [] := by intro e; subst e; simp at hi
    have hs := sides hp
    have hm : p[i] ∈ p := List.getElem_mem hi
    have b1 := hs.x0.1 _ hm
    have b2 := hs.y0.1 _ hm
    have b3 := hs.x1.1 _ hm
    have b4 := hs.y1.1 _ hm
    dsimp only at b1 b2 b3 b4
    have hin : inb (i : Int) p.length = true := inb_t ⟨by omega, by omega⟩
    rw [bif_T (by omega), w64_id (x := (i : Int) + 1) (by omega) (by omega)]
    simp only [hin, gT, rd_get _ p i hi]
    rw [bif_F (by omega), bif_F (by omega), bif_F (by omega), decide_eq_false (show ¬ p[i].2 > (high p).2 by omega), cF]
    rw [has_step _ _ _ _ hi, has_step _ _ _ _ hi, has_step _ _ _ _ hi, has_step _ _ _ _ hi] at hn
    have hn' : next (p, q, low p, high p, decide (p ≠ []), has (fun x => x.1) (low p).1 (p.take i) || decide (p[i].1 = (low p).1), has (fun x => x.1) (high p).1 (p.take i) || decide (p[i].1 = (high p).1), has (fun x => x.2) (low p).2 (p.take i) || decide (p[i].2 = (low p).2), has (fun x => x.2) (high p).2 (p.take i) || decide (p[i].2 = (high p).2), (i : Int) + 1) = some true := hn
    revert hn'
    generalize has (fun x => x.1) (low p).1 (p.take i) = c1
    generalize has (fun x => x.1) (high p).1 (p.take i) = c2
    generalize has (fun x => x.2) (low p).2 (p.take i) = c3
    generalize has (fun x => x.2) (high p).2 (p.take i) = c4
    cases c1 <;> cases c2 <;> cases c3 <;> cases c4 <;> exact fun h => h
theorem SortsBoxes (x0 : (List (Int × Int))) (x1 : (List (Int × Int))) (g0 : Kd.good (.sl (.pair kI kI)) x0) (g1 : Kd.good (.sl (.pair kI kI)) x1) : ∃ k, g_parquetlaw07_SortsBoxes k x0 x1 = some true :=
  ⟨700, boxes_law x0 x1⟩
end Go.Proofs.Ytfmeicojiadeiaa.Pure
