/- Words, loops, orders: for layer 12. -/
import Derived.Test.YtpkkcjmblocjdaaGreatV9
import Derived.Test.YtpkkcjmblocjdaaGreatSrt
section
set_option linter.unusedVariables false
set_option linter.unusedSimpArgs false
namespace Go.Proofs.YtpkkcjmblocjdaaGreat.Pure
open Go.RowKit Go.Proofs.YtpkkcjmblocjdaaGreat.AM PL

theorem bif_nT {α : Type} {p : Prop} [Decidable p] {x y : α} (h : p) : (bif !(decide p) then x else y) = y := by rw [decide_eq_true h]; rfl
theorem bif_nF {α : Type} {p : Prop} [Decidable p] {x y : α} (h : ¬ p) : (bif !(decide p) then x else y) = x := by rw [decide_eq_false h]; rfl
theorem loop_any {α ρ : Type} {f : α → (α → Option ρ) → Option ρ} (st : Nat → α) (n : Nat) (b : Nat → Bool) (v e : Option ρ) (h0 : ∀ next, f (st n) next = e) (hs : ∀ i, i < n → ∀ next, f (st i) next = bif b i then v else next (st (i + 1))) (q : Nat) (hq : n < q) :
    loopN f q (st 0) = bif (List.range n).any b then v else e := by
  refine (loop_list st n (fun i => bif (List.range' i (n - i)).any b then v else e) ?_ ?_ q 0 (Nat.zero_le _) (by omega)).trans ?_
  · intro next
    rw [h0, Nat.sub_self]
    rfl
  · intro i hi next hn
    rw [hs i hi, hn, show n - i = (n - (i + 1)) + 1 by omega, List.range'_succ, List.any_cons]
    cases b i <;> rfl
  · rw [List.range_eq_range']
    rfl
theorem loop_anyE {α ρ : Type} {f : α → (α → Option ρ) → Option ρ} (st : Nat → α) (n : Nat) (b : Nat → Bool) (v e : Option ρ) {s0 : α} (es : s0 = st 0) (h0 : ∀ next, f (st n) next = e) (hs : ∀ i, i < n → ∀ next, f (st i) next = bif b i then v else next (st (i + 1))) (q : Nat) (hq : n < q) :
    loopN f q s0 = bif (List.range n).any b then v else e := by rw [es]; exact loop_any st n b v e h0 hs q hq
theorem loop_from {α ρ : Type} {f : α → (α → Option ρ) → Option ρ} (st : Nat → α) (n : Nat) {v : Option ρ} {s0 : α} (e : s0 = st 0) (h0 : ∀ next, f (st n) next = v) (hs : ∀ i, i < n → ∀ next, next (st (i + 1)) = v → f (st i) next = v) (q : Nat) (hq : n < q) : loopN f q s0 = v := by
  rw [e]
  exact loop_list st n (fun _ => v) h0 hs q 0 (Nat.zero_le _) (by omega)
theorem nxt_nil {α ρ : Type} (k0 : Option ρ) (k1 : α → List α → Option ρ) : nxt [] k0 k1 = k0 := rfl
theorem nxt_of {α ρ : Type} {es : List α} {k0 : Option ρ} {k1 : α → List α → Option ρ} {y : ρ} (hne : es ≠ []) (h : ∀ (j : Nat) (e : α), es[j]? = some e → k1 e (es.eraseIdx j) = some y) : nxt es k0 k1 = some y := by
  cases es with
  | nil => exact absurd rfl hne
  | cons e r =>
    unfold nxt
    simp only
    split
    · rename_i hc
      have h1 := hc.choose_spec 0 e rfl
      rw [h 0 e rfl] at h1
      rw [h1]
    · rename_i hc
      exact absurd ⟨y, h⟩ hc
theorem erase_perm {α : Type} : ∀ {es : List α} {j : Nat} {e : α}, es[j]? = some e → (e :: es.eraseIdx j).Perm es
  | [], j, e, h => by simp at h
  | x :: es, 0, e, h => by
    simp only [List.getElem?_cons_zero, Option.some.injEq] at h
    subst h
    exact List.Perm.refl _
  | x :: es, j + 1, e, h => by
    have ih := erase_perm (es := es) (j := j) (e := e) (by simpa using h)
    rw [List.eraseIdx_cons_succ]
    exact (List.Perm.swap x e _).trans (ih.cons x)
theorem take_snoc {α : Type} (l : List α) (i : Nat) (h : i < l.length) : l.take (i + 1) = l.take i ++ [l[i]] := by rw [List.take_add_one, List.getElem?_eq_getElem h]; rfl
theorem flat_snoc {α β : Type} (g : α → List β) (l : List α) (i : Nat) (h : i < l.length) : (l.take (i + 1)).flatMap g = (l.take i).flatMap g ++ g l[i] := by rw [take_snoc l i h, List.flatMap_append]; simp
theorem map_snoc {α β : Type} (g : α → β) (l : List α) (i : Nat) (h : i < l.length) : (l.take (i + 1)).map g = (l.take i).map g ++ [g l[i]] := by rw [take_snoc l i h, List.map_append]; rfl
theorem fn_kk (k : Pt) : (fun p : Pt × Bool => Kd.eqT kk k p.1) = fun p => decide (k = p.1) := funext fun p => eqT_kk k p.1
theorem hs_any (es : List (Pt × Bool)) (k : Pt) : hsM kk .bool es k = es.any fun p => decide (k = p.1) := by
  rw [← fn_kk]
  rfl
def yes (l : List Pt) : List (Pt × Bool) := l.map fun s => (s, true)
theorem hs_yes (l : List Pt) (k : Pt) : hsM kk .bool (yes l) k = decide (k ∈ l) := by
  rw [hs_any]
  unfold yes
  rw [Bool.eq_iff_iff, List.any_eq_true, decide_eq_true_eq]
  constructor
  · rintro ⟨p, hp, h⟩
    rw [decide_eq_true_eq] at h
    obtain ⟨s, hs, rfl⟩ := List.mem_map.1 hp
    rw [h]; exact hs
  · intro h
    exact ⟨(k, true), List.mem_map.2 ⟨k, h, rfl⟩, decide_eq_true rfl⟩
theorem lk_cons' {κ ν : Kd} (p : κ.T × ν.T) (es : List (κ.T × ν.T)) (k : κ.T) : lkM κ ν (p :: es) k = bif Kd.eqT κ k p.1 then p.2 else lkM κ ν es k := by
  cases hb : Kd.eqT κ k p.1 <;> simp only [lkM, List.find?_cons, hb, cond]
theorem lk_yes : ∀ (l : List Pt) (k : Pt), toT Bool (lkM kk .bool (yes l) k) = decide (k ∈ l)
  | [], k => rfl
  | s :: l, k => by
    have e : lkM kk .bool (yes (s :: l)) k = bif decide (k = s) then true else lkM kk .bool (yes l) k := by
      rw [← eqT_kk]
      exact lk_cons' (κ := kk) (ν := .bool) (s, true) (yes l) k
    have ih := lk_yes l k
    by_cases h : k = s
    · rw [decide_eq_true (List.mem_cons.2 (.inl h))]
      refine (congrArg (toT Bool) e).trans ?_
      rw [decide_eq_true h]; rfl
    · refine (congrArg (toT Bool) e).trans ?_
      rw [decide_eq_false h]
      refine ih.trans ?_
      rw [Bool.eq_iff_iff, decide_eq_true_eq, decide_eq_true_eq, List.mem_cons]
      simp [h]
theorem ad_yes (l : List Pt) (k : Pt) : adM kk .bool (yes l) k true = yes (l ++ [k]) := by
  unfold yes; rw [List.map_append]; rfl

structure Ordr {α : Type} (lt : α → α → Prop) : Prop where
  irr : ∀ a, ¬ lt a a
  tr : ∀ {a b c}, lt a b → lt b c → lt a c
  tri : ∀ {a b}, ¬ lt a b → ¬ lt b a → a = b
section
variable {α : Type} {lt : α → α → Prop}
theorem Ordr.ext (o : Ordr lt) : ∀ {l r : List α}, l.Pairwise lt → r.Pairwise lt → (∀ x, x ∈ l ↔ x ∈ r) → l = r
  | [], [], _, _, _ => rfl
  | [], y :: r, _, _, h => absurd ((h y).2 List.mem_cons_self) (List.not_mem_nil)
  | x :: l, [], _, _, h => absurd ((h x).1 List.mem_cons_self) (List.not_mem_nil)
  | x :: l, y :: r, hl, hr, h => by
    have hl' := List.pairwise_cons.1 hl
    have hr' := List.pairwise_cons.1 hr
    have e : x = y := by
      have h1 := (h x).1 List.mem_cons_self
      have h2 := (h y).2 List.mem_cons_self
      rcases List.mem_cons.1 h1 with e | h1
      · exact e
      · rcases List.mem_cons.1 h2 with e | h2
        · exact e.symm
        · exact absurd (o.tr (hl'.1 y h2) (hr'.1 x h1)) (o.irr x)
    subst e
    congr 1
    refine o.ext hl'.2 hr'.2 fun z => ⟨fun hz => ?_, fun hz => ?_⟩
    · have := (h z).1 (List.mem_cons_of_mem _ hz)
      rcases List.mem_cons.1 this with e | h2
      · subst e; exact absurd (hl'.1 z hz) (o.irr z)
      · exact h2
    · have := (h z).2 (List.mem_cons_of_mem _ hz)
      rcases List.mem_cons.1 this with e | h2
      · subst e; exact absurd (hr'.1 z hz) (o.irr z)
      · exact h2
theorem srtL_prm (cf : α → α → Int) (l : List α) : (srtL cf l).Perm l := List.mergeSort_perm _ _
theorem Ordr.pair (o : Ordr lt) {cf : α → α → Int} (hc : ∀ a b, cf a b < 0 ↔ lt a b) (l : List α) : (srtL cf l).Pairwise fun x y => ¬ lt y x := by
  unfold srtL
  have := List.pairwise_mergeSort (le := fun x y : α => !(decide (cf y x < 0))) (fun a b c h1 h2 => by
    simp only [Bool.not_eq_true', decide_eq_false_iff_not, hc] at *
    intro h
    apply h1
    by_cases h3 : lt b c
    · by_cases h4 : lt a b
      · exact absurd (o.tr h4 (o.tr h3 h)) (o.irr a)
      · by_cases h5 : lt b a
        · exact h5
        · rw [o.tri h4 h5] at h; exact absurd (o.tr h h3) (o.irr c)
    · rw [o.tri h3 h2]; exact h) (fun a b => by
    simp only [Bool.or_eq_true, Bool.not_eq_true', decide_eq_false_iff_not, hc]
    by_cases h : lt b a
    · exact .inr fun h' => o.irr a (o.tr h' h)
    · exact .inl h) l
  exact this.imp fun h => by simpa [hc] using h
theorem Ordr.srt (o : Ordr lt) {cf : α → α → Int} (hc : ∀ a b, cf a b < 0 ↔ lt a b) {l : List α} (h : l.Nodup) : (srtL cf l).Pairwise lt := by
  have hn : (srtL cf l).Nodup := (srtL_prm cf l).symm.nodup h
  refine List.Pairwise.imp₂ ?_ (o.pair hc l) hn
  intro a b h1 h2
  by_cases h3 : lt a b
  · exact h3
  · exact absurd (o.tri h3 h1) h2
theorem Ordr.nodup (o : Ordr lt) {l : List α} (h : l.Pairwise lt) : l.Nodup := h.imp fun {a b} hab e => by subst e; exact o.irr _ hab
end
def ltS (a b : Pt) : Prop := a.1 < b.1 ∨ (a.1 = b.1 ∧ a.2 < b.2)
instance : DecidableRel ltS := fun a b => inferInstanceAs (Decidable (_ ∨ _))
abbrev Tr : Type := Int × Int × Int
def ltT (a b : Tr) : Prop := a.1 < b.1 ∨ (a.1 = b.1 ∧ (a.2.1 < b.2.1 ∨ (a.2.1 = b.2.1 ∧ a.2.2 < b.2.2)))
instance : DecidableRel ltT := fun a b => inferInstanceAs (Decidable (_ ∨ _))
theorem ordS : Ordr ltS where
  irr a := by unfold ltS; omega
  tr {a b c} := by unfold ltS; omega
  tri {a b} h1 h2 := by unfold ltS at h1 h2; exact Prod.ext (by omega) (by omega)
theorem ordT : Ordr ltT where
  irr a := by unfold ltT; omega
  tr {a b c} := by unfold ltT; omega
  tri {a b} h1 h2 := by unfold ltT at h1 h2; exact Prod.ext (by omega) (Prod.ext (by omega) (by omega))
theorem cf49 (a b : Pt) : cf_49 a b < 0 ↔ ltS a b := by unfold cf_49 ltS; (repeat' split) <;> omega
theorem cf57 (a b : Tr) : cf_57 a b < 0 ↔ ltT a b := by unfold cf_57 ltT; (repeat' split) <;> omega
end Go.Proofs.YtpkkcjmblocjdaaGreat.Pure
end
/- fill.Tri, and the reference's. -/
section
set_option linter.unusedVariables false
set_option linter.unusedSimpArgs false
namespace Go.Proofs.YtpkkcjmblocjdaaGreat.Pure
open Go.RowKit Go.Proofs.YtpkkcjmblocjdaaGreat.AM PL

def rot3 (a b c : Int) : Tr := if a ≤ b ∧ a ≤ c then (a, b, c) else if b ≤ c ∧ b ≤ a then (b, c, a) else (c, a, b)
def triv (p : List Pt) (a b c : Int) : Tr × Bool :=
  if inr a p.length ∧ inr b p.length ∧ inr c p.length then
    (if ori (pt p a) (pt p b) (pt p c) = 0 then ((0, 0, 0), false) else if ori (pt p a) (pt p b) (pt p c) = -1 then (rot3 a c b, true) else (rot3 a b c, true))
  else ((0, 0, 0), false)
theorem oriT (m : Nat) (a b q : Pt) : g_pred_Orient (m + 1000) a b q = some (ori a b q) := Orient_f (m + 994) a b q
theorem rOriT (m : Nat) (a b q : Pt) : g_parquetref03_Orient (m + 1000) a b q = some (ori a b q) := rOrient_f (m + 900) a b q
def sel3 (a b c : Int) (i : Nat) : Int := if i = 0 then a else if i = 1 then b else c
theorem rotl {F : (Int × Int × Int × Int × Int × Int) → ((Int × Int × Int × Int × Int × Int) → Option (Tr × Bool)) → Option (Tr × Bool)}
    (hF : ∀ a b c x y z next, F (a, b, c, x, y, z) next = if a > b ∨ a > c then next (b, c, a, x, y, z) else some ((a, b, c), true)) (m : Nat) (a b c x y z : Int) :
    loopN F (m + 1000) (a, b, c, x, y, z) = some (rot3 a b c, true) := by
  rw [show m + 1000 = (m + 997) + 1 + 1 + 1 from rfl, loop_s, hF]
  unfold rot3
  by_cases h1 : a ≤ b ∧ a ≤ c
  · rw [if_neg (by omega), if_pos h1]
  rw [if_pos (by omega), if_neg h1, loop_s, hF]
  by_cases h2 : b ≤ c ∧ b ≤ a
  · rw [if_neg (by omega), if_pos h2]
  rw [if_pos (by omega), if_neg h2, loop_s, hF, if_neg (by omega)]
theorem Tri_f (m : Nat) (p : List Pt) (a b c : Int) (hp : p.length ≤ 1000) : g_fill_Tri (m + 1000) p a b c = some (triv p a b c) := by
  unfold g_fill_Tri b_fill_Tri
  refine (loop_anyE (fun i => (p, a, b, c, (0, 0, 0), (a, b, c), (i : Int))) 3 (fun i => !decide (inr (sel3 a b c i) p.length)) (some ((0, 0, 0), false)) (if inr a p.length ∧ inr b p.length ∧ inr c p.length then some (triv p a b c) else none) rfl (fun next => ?_) (fun i hi next => ?_) (m + 1000) (by omega)).trans ?_
  · dsimp only
    rw [bif_F (by omega)]
    by_cases h : inr a p.length ∧ inr b p.length ∧ inr c p.length
    · rw [if_pos h, gd_t (inb_t h.1), gd_t (inb_t h.2.1), gd_t (inb_t h.2.2)]
      simp only [meet]
      have e : ∀ i : Int, ((rdD (0, 0) p i).1, (rdD (0, 0) p i).2) = pt p i := fun _ => rfl
      rw [e, e, e, oriT, bnd_s]
      unfold triv
      rw [if_pos h]
      by_cases h0 : ori (pt p a) (pt p b) (pt p c) = 0
      · rw [bif_T h0, if_pos h0]
      rw [bif_F h0, if_neg h0]
      have hF : ∀ a b c x y z (next : (Int × Int × Int × Int × Int × Int) → Option (Tr × Bool)), (bif decide (a > b) then (bif true then next (b, c, a, x, y, z) else some ((a, b, c), true)) else (bif decide (a > c) then next (b, c, a, x, y, z) else some ((a, b, c), true))) = if a > b ∨ a > c then next (b, c, a, x, y, z) else some ((a, b, c), true) := by
        intro a b c x y z next
        by_cases h1 : a > b
        · rw [bif_T h1, if_pos (.inl h1)]; rfl
        · rw [bif_F h1]
          by_cases h2 : a > c
          · rw [bif_T h2, if_pos (.inr h2)]
          · rw [bif_F h2, if_neg (by omega)]
      by_cases h1 : ori (pt p a) (pt p b) (pt p c) = -1
      · rw [bif_T h1, if_pos h1]
        exact rotl (fun a b c x y z next => hF a b c x y z next) m _ _ _ _ _ _
      · rw [bif_F h1, if_neg h1]
        exact rotl (fun a b c x y z next => hF a b c x y z next) m _ _ _ _ _ _
    · rw [if_neg h]
      by_cases ha : inr a p.length
      · rw [gd_t (inb_t ha)]
        by_cases hb : inr b p.length
        · rw [gd_t (inb_t hb)]
          have hc : ¬ inr c p.length := fun hc => h ⟨ha, hb, hc⟩
          have : inb c p.length = false := by unfold inb; unfold inr at hc; simp; omega
          rw [this]; rfl
        · have : inb b p.length = false := by unfold inb; unfold inr at hb; simp; omega
          rw [this]; rfl
      · have : inb a p.length = false := by unfold inb; unfold inr at ha; simp; omega
        rw [this]; rfl
  · dsimp only
    rw [bif_T (by omega)]
    simp only [meet]
    rw [w64_id (x := (i : Int) + 1) (by omega) (by omega)]
    have key : ∀ (v : Int) (N : Option (Tr × Bool)), (bif decide (v < 0) then (bif true then some (((0, 0, 0), false) : Tr × Bool) else N) else (bif decide (v ≥ (p.length : Int)) then some ((0, 0, 0), false) else N)) = bif !decide (inr v p.length) then some ((0, 0, 0), false) else N := by
      intro v N
      by_cases h : inr v p.length
      · rw [bif_nT h]
        have h' := h
        unfold inr at h'
        rw [bif_F (by omega), bif_F (by omega)]
      · rw [bif_nF h]
        unfold inr at h
        by_cases h1 : v < 0
        · rw [bif_T h1]; rfl
        · rw [bif_F h1, bif_T (by omega)]
    match i, hi with
    | 0, _ => exact key a _
    | 1, _ => exact key b _
    | 2, _ => exact key c _
  · have e : (List.range 3).any (fun i => !decide (inr (sel3 a b c i) p.length)) = !decide (inr a p.length ∧ inr b p.length ∧ inr c p.length) := by
      show (!decide (inr a p.length) || (!decide (inr b p.length) || (!decide (inr c p.length) || false))) = _
      by_cases ha : inr a p.length <;> by_cases hb : inr b p.length <;> by_cases hc : inr c p.length <;> simp [ha, hb, hc]
    rw [e]
    by_cases h : inr a p.length ∧ inr b p.length ∧ inr c p.length
    · rw [bif_nT h, if_pos h]
    · rw [bif_nF h]
      unfold triv
      rw [if_neg h]
theorem ori_rot (a b c : Pt) : ori b c a = ori a b c := by
  unfold ori; rw [crs_rot]
  by_cases h : Fit a ∧ Fit b ∧ Fit c
  · rw [if_pos h, if_pos ⟨h.2.1, h.2.2, h.1⟩]
  · rw [if_neg h, if_neg fun x => h ⟨x.2.2, x.1, x.2.1⟩]
theorem ori_sw (a b c : Pt) : ori b a c = -ori a b c := sg_swap a b c
theorem ori_sw2 (a b c : Pt) : ori a c b = -ori a b c := by
  have h1 := ori_rot a c b
  have h2 := ori_sw b c a
  have h3 := ori_rot a b c
  omega
theorem ori_aab (a b : Pt) : ori a a b = 0 := by have := ori_sw a a b; omega
theorem ori_aba (a b : Pt) : ori a b a = 0 := by rw [← ori_rot, ← ori_rot, ori_aab]
theorem ori_baa (a b : Pt) : ori b a a = 0 := by rw [← ori_rot, ori_aab]
def six3 (a b c : Int) : List Tr := [(a, b, c), (b, c, a), (c, a, b), (a, c, b), (c, b, a), (b, a, c)]
def okT3 (p : List Pt) (t : Tr) : Prop := t.1 < t.2.1 ∧ t.1 < t.2.2 ∧ ori (pt p t.1) (pt p t.2.1) (pt p t.2.2) = 1
instance (p : List Pt) (t : Tr) : Decidable (okT3 p t) := inferInstanceAs (Decidable (_ ∧ _ ∧ _))
theorem six_find (p : List Pt) (a b c : Int) (h : ori (pt p a) (pt p b) (pt p c) ≠ 0) : (six3 a b c).find? (fun t => decide (okT3 p t)) = some (triv p a b c).1 ∨ ¬(inr a p.length ∧ inr b p.length ∧ inr c p.length) := by
  by_cases hr : inr a p.length ∧ inr b p.length ∧ inr c p.length
  · refine .inl ?_
    have hab : a ≠ b := fun e => h (by rw [e]; exact ori_aab _ _)
    have hbc : b ≠ c := fun e => h (by rw [e]; exact ori_baa _ _)
    have hac : a ≠ c := fun e => h (by rw [e]; exact ori_aba _ _)
    have o2 := ori_rot (pt p a) (pt p b) (pt p c)
    have o3 := ori_rot (pt p b) (pt p c) (pt p a)
    have o4 := ori_sw2 (pt p a) (pt p b) (pt p c)
    have o5 := ori_rot (pt p a) (pt p c) (pt p b)
    have o6 := ori_rot (pt p c) (pt p b) (pt p a)
    have hg := ori_range (pt p a) (pt p b) (pt p c)
    unfold triv
    rw [if_pos hr, if_neg h]
    rcases show ori (pt p a) (pt p b) (pt p c) = 1 ∨ ori (pt p a) (pt p b) (pt p c) = -1 by omega with e | e
    · have q2 : ori (pt p b) (pt p c) (pt p a) = 1 := by omega
      have q3 : ori (pt p c) (pt p a) (pt p b) = 1 := by omega
      have q4 : ori (pt p a) (pt p c) (pt p b) = -1 := by omega
      have q5 : ori (pt p c) (pt p b) (pt p a) = -1 := by omega
      have q6 : ori (pt p b) (pt p a) (pt p c) = -1 := by omega
      simp [six3, rot3, List.find?_cons, okT3, e, q2, q3, q4, q5, q6]
      by_cases h1 : a < b <;> by_cases h2 : a < c <;> by_cases h3 : b < c <;> simp [h1, h2, h3] <;> (repeat' split) <;> (try rfl) <;> (try omega) <;> (try (exfalso; omega)) <;> simp_all <;> omega
    · have q2 : ori (pt p b) (pt p c) (pt p a) = -1 := by omega
      have q3 : ori (pt p c) (pt p a) (pt p b) = -1 := by omega
      have q4 : ori (pt p a) (pt p c) (pt p b) = 1 := by omega
      have q5 : ori (pt p c) (pt p b) (pt p a) = 1 := by omega
      have q6 : ori (pt p b) (pt p a) (pt p c) = 1 := by omega
      simp [six3, rot3, List.find?_cons, okT3, e, q2, q3, q4, q5, q6]
      by_cases h1 : a < b <;> by_cases h2 : a < c <;> by_cases h3 : b < c <;> simp [h1, h2, h3] <;> (repeat' split) <;> (try rfl) <;> (try omega) <;> (try (exfalso; omega)) <;> simp_all <;> omega
  · exact .inr hr
end Go.Proofs.YtpkkcjmblocjdaaGreat.Pure
end
/- The reference's Tri; triangles as rows. -/
section
set_option linter.unusedVariables false
set_option linter.unusedSimpArgs false
namespace Go.Proofs.YtpkkcjmblocjdaaGreat.Pure
open Go.RowKit Go.Proofs.YtpkkcjmblocjdaaGreat.AM PL

theorem six_in {p : List Pt} {a b c : Int} (h : inr a p.length ∧ inr b p.length ∧ inr c p.length) : ∀ t ∈ six3 a b c, inr t.1 p.length ∧ inr t.2.1 p.length ∧ inr t.2.2 p.length := by
  obtain ⟨h1, h2, h3⟩ := h
  intro t ht
  simp only [six3, List.mem_cons, List.not_mem_nil, or_false] at ht
  rcases ht with rfl | rfl | rfl | rfl | rfl | rfl
  · exact ⟨h1, h2, h3⟩
  · exact ⟨h2, h3, h1⟩
  · exact ⟨h3, h1, h2⟩
  · exact ⟨h1, h3, h2⟩
  · exact ⟨h3, h2, h1⟩
  · exact ⟨h2, h1, h3⟩
def ansT : Option Tr → Option (Tr × Bool)
  | some t => some (t, true)
  | none => some ((0, 0, 0), false)
theorem rTri_f (m : Nat) (p : List Pt) (a b c : Int) (hp : p.length ≤ 1000) : g_parquetref12_Tri (m + 1000) p a b c = some (triv p a b c) := by
  unfold g_parquetref12_Tri b_parquetref12_Tri
  simp only [meet]
  have no : ¬ (inr a p.length ∧ inr b p.length ∧ inr c p.length) → some (((0, 0, 0), false) : Tr × Bool) = some (triv p a b c) := fun h => by unfold triv; rw [if_neg h]
  by_cases h1 : a < 0
  · rw [bif_T h1]; exact no fun h => by have := h.1; unfold inr at this; omega
  rw [bif_F h1]
  by_cases h2 : b < 0
  · rw [bif_T h2]; exact no fun h => by have := h.2.1; unfold inr at this; omega
  rw [bif_F h2]
  by_cases h3 : c < 0
  · rw [bif_T h3]; exact no fun h => by have := h.2.2; unfold inr at this; omega
  rw [bif_F h3]
  by_cases h4 : a ≥ (p.length : Int)
  · rw [bif_T h4]; exact no fun h => by have := h.1; unfold inr at this; omega
  rw [bif_F h4]
  by_cases h5 : b ≥ (p.length : Int)
  · rw [bif_T h5]; exact no fun h => by have := h.2.1; unfold inr at this; omega
  rw [bif_F h5]
  by_cases h6 : c ≥ (p.length : Int)
  · rw [bif_T h6]; exact no fun h => by have := h.2.2; unfold inr at this; omega
  rw [bif_F h6]
  have hr : inr a p.length ∧ inr b p.length ∧ inr c p.length := by unfold inr; omega
  have ep : ∀ i : Int, ((rdD (0, 0) p i).1, (rdD (0, 0) p i).2) = pt p i := fun _ => rfl
  simp only [inb_r hr.1, inb_r hr.2.1, inb_r hr.2.2, gT, ep, rOriT, bnd_s]
  by_cases h0 : ori (pt p a) (pt p b) (pt p c) = 0
  · rw [decide_eq_true h0]
    show some _ = _
    unfold triv
    rw [if_pos hr, if_pos h0]
  · rw [decide_eq_false h0, cF]
    have hsix : (six3 a b c).length = 6 := rfl
    refine (loop_list (fun i => (p, (0, 0, 0), six3 a b c, (i : Int))) 6 (fun i => ansT (((six3 a b c).drop i).find? fun t => decide (okT3 p t))) (fun next => ?_) (fun i hi next hn => ?_) (m + 1000) 0 (by omega) (by omega)).trans ?_
    · dsimp only
      rw [bif_F (by omega)]
      rfl
    · have hi' : i < (six3 a b c).length := by omega
      dsimp only
      rw [bif_T (by omega), gd_t (inb_t ⟨by omega, by omega⟩), rd_get _ _ i hi', w64_id (x := (i : Int) + 1) (by omega) (by omega), List.drop_eq_getElem_cons hi', List.find?_cons]
      have hm := six_in hr _ (List.getElem_mem hi')
      generalize (six3 a b c)[i] = t at *
      by_cases c1 : t.1 < t.2.1
      · rw [bif_T c1]
        by_cases c2 : t.1 < t.2.2
        · rw [bif_T c2, gd_t (inb_t hm.1), gd_t (inb_t hm.2.1), gd_t (inb_t hm.2.2), ep, ep, ep]
          by_cases c3 : ori (pt p t.1) (pt p t.2.1) (pt p t.2.2) = 1
          · rw [decide_eq_true c3, decide_eq_true (show okT3 p t from ⟨c1, c2, c3⟩)]; rfl
          · rw [decide_eq_false c3, decide_eq_false (show ¬ okT3 p t from fun h => c3 h.2.2)]; exact hn
        · rw [bif_F c2, decide_eq_false (show ¬ okT3 p t from fun h => c2 h.2.1)]; exact hn
      · rw [bif_F c1, decide_eq_false (show ¬ okT3 p t from fun h => c1 h.1)]; exact hn
    · rw [List.drop_zero]
      rcases six_find p a b c h0 with e | e
      · rw [e]
        unfold triv
        rw [if_pos hr, if_neg h0]
        by_cases hx : ori (pt p a) (pt p b) (pt p c) = -1
        · rw [if_pos hx]; rfl
        · rw [if_neg hx]; rfl
      · exact absurd hr e
theorem edges_f (k : Nat) (t : Tr) : g_fill_edges k t = some ((t.1, t.2.1), (t.2.1, t.2.2), (t.2.2, t.1)) := rfl
theorem up_f (k : Nat) (s : Pt) : g_fill_up k s = some (mnI s.1 s.2, mxI s.1 s.2) := rfl
theorem byT (m : Nat) (a b : Tr) : g_fill_byTri (m + 1000) a b = some (cf_57 a b) := byTri_f (m + 995) a b
theorem byS (m : Nat) (a b : Pt) : g_fill_bySeg (m + 1000) a b = some (cf_49 a b) := bySeg_f (m + 995) a b
theorem before_f (k : Nat) (a b : Tr) : g_parquetref12_before k a b = some (decide (ltT a b)) := by
  unfold g_parquetref12_before
  by_cases h1 : a.1 = b.1
  · rw [bif_nT h1]
    by_cases h2 : a.2.1 = b.2.1
    · rw [bif_nT h2]
      exact congrArg some (decide_eq_decide.2 (by unfold ltT; omega))
    · rw [bif_nF h2]
      exact congrArg some (decide_eq_decide.2 (by unfold ltT; omega))
  · rw [bif_nF h1]
    exact congrArg some (decide_eq_decide.2 (by unfold ltT; omega))
end Go.Proofs.YtpkkcjmblocjdaaGreat.Pure
end
/- fill.Check: whether a mesh may be. -/
section
set_option linter.unusedVariables false
set_option linter.unusedSimpArgs false
namespace Go.Proofs.YtpkkcjmblocjdaaGreat.Pure
open Go.RowKit Go.Proofs.YtpkkcjmblocjdaaGreat.AM PL

theorem loop_anyI {α ρ : Type} {f : α → (α → Option ρ) → Option ρ} (I : Nat → Prop) (st : Nat → α) (n : Nat) (b : Nat → Bool) (v e : Option ρ) {s0 : α} (es : s0 = st 0) (hI : I 0) (h0 : I n → ∀ next, f (st n) next = e) (hs : ∀ i, i < n → I i → (∀ next, f (st i) next = bif b i then v else next (st (i + 1))) ∧ (b i = false → I (i + 1))) (q : Nat) (hq : n < q) :
    loopN f q s0 = bif (List.range n).any b then v else e := by
  rw [es]
  have main : ∀ (q i : Nat), I i → i ≤ n → n - i < q → loopN f q (st i) = bif (List.range' i (n - i)).any b then v else e := by
    intro q
    induction q with
    | zero => intro i _ _ h; omega
    | succ q ih =>
      intro i hi hin hq
      rw [loop_s]
      by_cases h : i = n
      · subst h; rw [h0 hi, Nat.sub_self]; rfl
      · obtain ⟨h1, h2⟩ := hs i (by omega) hi
        rw [h1, show n - i = (n - (i + 1)) + 1 by omega, List.range'_succ, List.any_cons]
        cases hb : b i with
        | true => rfl
        | false => exact ih (i + 1) (h2 hb) (by omega) (by omega)
  rw [main q 0 hI (by omega) (by omega), List.range_eq_range']
  rfl
abbrev Mesh : Type := List Pt × List Tr × List Pt
def rv (s : Pt) : Pt := (s.2, s.1)
def up (s : Pt) : Pt := (mnI s.1 s.2, mxI s.1 s.2)
def sides (t : Tr) : List Pt := [(t.1, t.2.1), (t.2.1, t.2.2), (t.2.2, t.1)]
def sd (t : Tr) (j : Nat) : Pt := if j = 0 then (t.1, t.2.1) else if j = 1 then (t.2.1, t.2.2) else (t.2.2, t.1)
def tt (T : List Tr) (i : Int) : Tr := rdD (0, 0, 0) T i
theorem tt_nat {T : List Tr} {i : Nat} (h : i < T.length) : tt T (i : Int) = T[i] := rd_get _ T i h
theorem sides_take (t : Tr) (j : Nat) (h : j < 3) : (sides t).take (j + 1) = (sides t).take j ++ [sd t j] := by
  match j, h with
  | 0, _ => rfl
  | 1, _ => rfl
  | 2, _ => rfl
def Eo (T : List Tr) (i : Nat) : List Pt := (T.take i).flatMap sides
theorem Eo_succ {T : List Tr} {i : Nat} (h : i < T.length) : Eo T (i + 1) = Eo T i ++ sides T[i] := flat_snoc sides T i h
def triB (P : List Pt) (T : List Tr) (i : Nat) : Bool := decide (triv P (tt T i).1 (tt T i).2.1 (tt T i).2.2 ≠ (tt T i, true)) || (decide (0 < i) && decide (¬ ltT (tt T (i - 1 : Nat)) (tt T i)))
def edgB (T : List Tr) (i : Nat) : Bool := (List.range 3).any fun j => decide (sd (tt T i) j ∈ Eo T i ++ (sides (tt T i)).take j)
def segB (E S : List Pt) (i : Nat) : Bool := decide ((pt S i).1 ≥ (pt S i).2) || ((decide (0 < i) && decide (¬ ltS (pt S (i - 1 : Nat)) (pt S i))) || (decide (pt S i ∉ E) && decide (rv (pt S i) ∉ E)))
def rimB (E S : List Pt) (s : Pt) : Bool := decide (rv s ∉ E) && decide (up s ∉ S)
def chkv (m : Mesh) : Int :=
  bif (List.range m.2.1.length).any (fun i => triB m.1 m.2.1 i || edgB m.2.1 i) then 2
  else bif (List.range m.2.2.length).any (segB (Eo m.2.1 m.2.1.length) m.2.2) then 2
  else bif (Eo m.2.1 m.2.1.length).any (rimB (Eo m.2.1 m.2.1.length) m.2.2) then 2 else 0
theorem cf49n (a b : Pt) : cf_49 a b ≥ 0 ↔ ¬ ltS a b := by rw [← cf49]; omega
theorem cf57n (a b : Tr) : cf_57 a b ≥ 0 ↔ ¬ ltT a b := by rw [← cf57]; omega
theorem yes_any (E : List Pt) (b : Pt → Bool) : (yes E).any (fun e => b e.1) = E.any b := by unfold yes; rw [List.any_map]; rfl
theorem chk3 (m : Nat) {E S : List Pt} (hE : E.length ≤ 900) {F : (List (Pt × Bool) × List (Pt × Bool) × List (Pt × Bool)) → ((List (Pt × Bool) × List (Pt × Bool) × List (Pt × Bool)) → Option Int) → Option Int}
    (hF : ∀ x52 x53 x54 next51, F (x52, x53, x54) next51 = nxt x54 (some 0) (fun e r55 =>
        bif !(toT Bool (lkM (.pair (.int .i64) (.int .i64)) .bool x52 (e.1.2, e.1.1))) then
         bnd (g_fill_up (m + 1000) (e.1.1, e.1.2)) fun r63 =>
         (bif !(toT Bool (lkM (.pair (.int .i64) (.int .i64)) .bool x53 (r63.1, r63.2))) then some 2 else next51 (x52, x53, r55))
        else
         (bif false then some 2 else next51 (x52, x53, r55)))) :
    loopN F (m + 1000) (yes E, yes S, yes E) = some (bif E.any (rimB E S) then 2 else 0) := by
  refine (loop_rel (fun n s v => ∃ rs : List (Pt × Bool), n = rs.length ∧ s = (yes E, yes S, rs) ∧ v = some (bif rs.any (fun e => rimB E S e.1) then 2 else 0)) ?_ (m + 1000) E.length _ _ ⟨yes E, by simp [yes], rfl, rfl⟩ (by omega)).trans (by rw [yes_any])
  rintro n s v ⟨rs, rfl, rfl, rfl⟩ next hn
  rw [hF]
  by_cases he : rs = []
  · subst he; rw [nxt_nil]; rfl
  refine nxt_of he fun j e hj => ?_
  have hpm := erase_perm hj
  have hany : rs.any (fun e => rimB E S e.1) = (rimB E S e.1 || (rs.eraseIdx j).any fun e => rimB E S e.1) := by
    rw [← List.any_cons (f := fun e : Pt × Bool => rimB E S e.1)]
    exact (hpm.any_eq).symm
  have hnx : next (yes E, yes S, rs.eraseIdx j) = some (bif (rs.eraseIdx j).any (fun e => rimB E S e.1) then 2 else 0) := by
    refine hn _ _ _ ?_ ⟨_, rfl, rfl, rfl⟩
    have := hpm.length_eq
    simp only [List.length_cons] at this
    omega
  have k1 : toT Bool (lkM (.pair (.int .i64) (.int .i64)) .bool (yes E) (e.1.2, e.1.1)) = decide (rv e.1 ∈ E) := lk_yes E (rv e.1)
  have k2 : toT Bool (lkM (.pair (.int .i64) (.int .i64)) .bool (yes S) (mnI e.1.1 e.1.2, mxI e.1.1 e.1.2)) = decide (up e.1 ∈ S) := lk_yes S (up e.1)
  rw [k1, up_f, bnd_s, k2, hany]
  by_cases h1 : rv e.1 ∈ E
  · rw [bif_nT h1, cF, hnx]
    have : rimB E S e.1 = false := by unfold rimB; simp [h1]
    rw [this, Bool.false_or]
  · rw [bif_nF h1]
    by_cases h2 : up e.1 ∈ S
    · rw [bif_nT h2, hnx]
      have : rimB E S e.1 = false := by unfold rimB; simp [h2]
      rw [this, Bool.false_or]
    · rw [bif_nF h2]
      have : rimB E S e.1 = true := by unfold rimB; simp [h1, h2]
      rw [this, Bool.true_or]; rfl

theorem chk2 (m : Nat) {P : List Pt} {T : List Tr} {E S : List Pt} (hS : S.length ≤ 900) {K : List (Pt × Bool) → List (Pt × Bool) → Option Int} {e : Option Int} (hK : K (yes E) (yes S) = e) {F : (Mesh × List (Pt × Bool) × List (Pt × Bool) × List Pt × Int × Int) → ((Mesh × List (Pt × Bool) × List (Pt × Bool) × List Pt × Int × Int) → Option Int) → Option Int}
    (hF : ∀ (x35 : Mesh) x36 x37 x38 x39 x40 next34, F (x35, x36, x37, x38, x39, x40) next34 =
     bif decide (x40 < x39) then
      gd (inb x40 x38.length) <|
      meet (α := (Mesh × ((List ((Int × Int) × Bool)) × ((List ((Int × Int) × Bool)) × ((Int × Int) × ((List (Int × Int)) × (Int × (Int × Bool)))))))) (fun (y41, y42, y43, y44, y45, y46, y47, y48) =>
       bif y48 then
        some 2
       else
        gd (!(hsM (.pair (.int .i64) (.int .i64)) .bool y43 (y44.1, y44.2))) <|
        next34 ((y41.1, y41.2.1, y41.2.2), y42, adM (.pair (.int .i64) (.int .i64)) .bool y43 (y44.1, y44.2) true, y45, y46, w64 (y47 + 1))) fun j49 =>
      bif decide ((rdD (0, 0) x38 x40).1 ≥ (rdD (0, 0) x38 x40).2) then
       j49 ((x35.1, x35.2.1, x35.2.2), x36, x37, ((rdD (0, 0) x38 x40).1, (rdD (0, 0) x38 x40).2), x38, x39, x40, true)
      else
       bif decide (x40 > 0) then
        gd (inb (w64 (x40 - 1)) x35.2.2.length) <|
        bnd (g_fill_bySeg (m + 1000) ((rdD (0, 0) x35.2.2 (w64 (x40 - 1))).1, (rdD (0, 0) x35.2.2 (w64 (x40 - 1))).2) ((rdD (0, 0) x38 x40).1, (rdD (0, 0) x38 x40).2)) fun r50 =>
        bif decide (r50 ≥ 0) then
         j49 ((x35.1, x35.2.1, x35.2.2), x36, x37, ((rdD (0, 0) x38 x40).1, (rdD (0, 0) x38 x40).2), x38, x39, x40, true)
        else
         bif !(toT Bool (lkM (.pair (.int .i64) (.int .i64)) .bool x36 ((rdD (0, 0) x38 x40).1, (rdD (0, 0) x38 x40).2))) then
          j49 ((x35.1, x35.2.1, x35.2.2), x36, x37, ((rdD (0, 0) x38 x40).1, (rdD (0, 0) x38 x40).2), x38, x39, x40, !(toT Bool (lkM (.pair (.int .i64) (.int .i64)) .bool x36 ((rdD (0, 0) x38 x40).2, (rdD (0, 0) x38 x40).1))))
         else
          j49 ((x35.1, x35.2.1, x35.2.2), x36, x37, ((rdD (0, 0) x38 x40).1, (rdD (0, 0) x38 x40).2), x38, x39, x40, false)
       else
        bif !(toT Bool (lkM (.pair (.int .i64) (.int .i64)) .bool x36 ((rdD (0, 0) x38 x40).1, (rdD (0, 0) x38 x40).2))) then
         j49 ((x35.1, x35.2.1, x35.2.2), x36, x37, ((rdD (0, 0) x38 x40).1, (rdD (0, 0) x38 x40).2), x38, x39, x40, !(toT Bool (lkM (.pair (.int .i64) (.int .i64)) .bool x36 ((rdD (0, 0) x38 x40).2, (rdD (0, 0) x38 x40).1))))
        else
         j49 ((x35.1, x35.2.1, x35.2.2), x36, x37, ((rdD (0, 0) x38 x40).1, (rdD (0, 0) x38 x40).2), x38, x39, x40, false)
     else K x36 x37) :
    loopN F (m + 1000) ((P, T, S), yes E, [], S, (S.length : Int), 0) = bif (List.range S.length).any (segB E S) then some 2 else e := by
  refine (loop_anyI (fun i => (S.take i).Pairwise ltS) (fun i => ((P, T, S), yes E, yes (S.take i), S, (S.length : Int), (i : Int))) S.length (segB E S) (some 2) e rfl (by simp) (fun hI next => ?_) (fun i hi hI => ?_) (m + 1000) (by omega))
  · rw [hF, bif_F (by omega), List.take_length]
    exact hK
  · have hS' : pt S (i : Int) = S[i] := pt_nat hi
    refine ⟨fun next => ?_, fun hb => ?_⟩
    · rw [hF, bif_T (by omega), gd_t (inb_t ⟨by omega, by omega⟩)]
      have ep : ∀ i : Int, ((rdD (0, 0) S i).1, (rdD (0, 0) S i).2) = pt S i := fun _ => rfl
      have e0 : rdD (0, 0) S (i : Int) = pt S (i : Int) := rfl
      rw [e0]
      have k1 : toT Bool (lkM (.pair (.int .i64) (.int .i64)) .bool (yes E) ((pt S (i : Int)).1, (pt S (i : Int)).2)) = decide (pt S (i : Int) ∈ E) := lk_yes E (pt S (i : Int))
      have k2 : toT Bool (lkM (.pair (.int .i64) (.int .i64)) .bool (yes E) ((pt S (i : Int)).2, (pt S (i : Int)).1)) = decide (rv (pt S (i : Int)) ∈ E) := lk_yes E (rv (pt S (i : Int)))
      simp only [meet, k1, k2]
      rw [w64_id (x := (i : Int) + 1) (by omega) (by omega)]
      have hst : ¬ (segB E S i = true) → gd (!(hsM (.pair (.int .i64) (.int .i64)) .bool (yes (S.take i)) (pt S (i : Int)))) (next ((P, T, S), yes E, adM (.pair (.int .i64) (.int .i64)) .bool (yes (S.take i)) (pt S (i : Int)) true, S, (S.length : Int), (i : Int) + 1)) = next ((P, T, S), yes E, yes (S.take (i + 1)), S, (S.length : Int), ((i + 1 : Nat) : Int)) := by
        intro hb
        have hno : pt S (i : Int) ∉ S.take i := by
          intro hm
          by_cases h0 : i = 0
          · subst h0; simp at hm
          · have hl : ltS (pt S ((i - 1 : Nat) : Int)) (pt S (i : Int)) := by
              apply Decidable.byContradiction
              intro hc
              apply hb
              unfold segB
              simp [show 0 < i by omega, hc]
            have hx : S.take i = S.take (i - 1) ++ [S[i - 1]] := by
              have := take_snoc S (i - 1) (by omega)
              rwa [show i - 1 + 1 = i by omega] at this
            rw [pt_nat (show i - 1 < S.length by omega)] at hl
            rw [hx] at hm hI
            rcases List.mem_append.1 hm with h | h
            · exact ordS.irr _ (ordS.tr ((List.pairwise_append.1 hI).2.2 _ h _ (by simp)) hl)
            · rw [List.mem_singleton.1 h] at hl; exact ordS.irr _ hl
        have h1 : hsM (.pair (.int .i64) (.int .i64)) .bool (yes (S.take i)) (pt S (i : Int)) = false := (hs_yes _ _).trans (decide_eq_false hno)
        have h2 : adM (.pair (.int .i64) (.int .i64)) .bool (yes (S.take i)) (pt S (i : Int)) true = yes (S.take (i + 1)) := (ad_yes _ _).trans (by rw [take_snoc S i hi, hS'])
        rw [h1, h2]; rfl
      by_cases h1 : (pt S (i : Int)).1 ≥ (pt S (i : Int)).2
      · rw [show segB E S i = true by unfold segB; simp [h1]]
        rw [bif_T h1]; rfl
      rw [bif_F h1]
      have tail : (∀ (h : i = 0 ∨ ltS (pt S ((i - 1 : Nat) : Int)) (pt S (i : Int))), (bif !decide (pt S (i : Int) ∈ E) then (bif !decide (rv (pt S (i : Int)) ∈ E) then some 2 else gd (!(hsM (.pair (.int .i64) (.int .i64)) .bool (yes (S.take i)) (pt S (i : Int)))) (next ((P, T, S), yes E, adM (.pair (.int .i64) (.int .i64)) .bool (yes (S.take i)) (pt S (i : Int)) true, S, (S.length : Int), (i : Int) + 1))) else (bif false then some 2 else gd (!(hsM (.pair (.int .i64) (.int .i64)) .bool (yes (S.take i)) (pt S (i : Int)))) (next ((P, T, S), yes E, adM (.pair (.int .i64) (.int .i64)) .bool (yes (S.take i)) (pt S (i : Int)) true, S, (S.length : Int), (i : Int) + 1)))) = bif segB E S i then some 2 else next ((P, T, S), yes E, yes (S.take (i + 1)), S, (S.length : Int), ((i + 1 : Nat) : Int))) := by
        intro hl
        have hl' : (decide (0 < i) && decide (¬ ltS (pt S ((i - 1 : Nat) : Int)) (pt S (i : Int)))) = false := by
          rcases hl with h | h
          · subst h; rfl
          · rw [decide_eq_false (not_not_intro h), Bool.and_false]
        by_cases h2 : pt S (i : Int) ∈ E
        · have : segB E S i = false := by unfold segB; rw [hl']; simp [h1, h2]
          rw [bif_nT h2, cF, this, cF]
          exact hst (by rw [this]; decide)
        · rw [bif_nF h2]
          by_cases h3 : rv (pt S (i : Int)) ∈ E
          · have : segB E S i = false := by unfold segB; rw [hl']; simp [h1, h3]
            rw [bif_nT h3, this, cF]
            exact hst (by rw [this]; decide)
          · have : segB E S i = true := by unfold segB; simp [h2, h3]
            rw [bif_nF h3, this]; rfl
      by_cases h0 : i = 0
      · subst h0
        rw [bif_F (by omega)]
        exact tail (.inl rfl)
      · rw [bif_T (show (i : Int) > 0 by omega), w64_id (x := (i : Int) - 1) (by omega) (by omega), show (i : Int) - 1 = ((i - 1 : Nat) : Int) by omega, gd_t (inb_t ⟨by omega, by omega⟩), ep, byS, bnd_s]
        by_cases hl : ltS (pt S ((i - 1 : Nat) : Int)) (pt S (i : Int))
        · rw [bif_F (fun h => (cf49n _ _).1 h hl)]
          exact tail (.inr hl)
        · rw [bif_T ((cf49n _ _).2 hl)]
          have : segB E S i = true := by unfold segB; simp [show 0 < i by omega, hl]
          rw [this]; rfl
    · rw [take_snoc S i hi, List.pairwise_append]
      refine ⟨hI, by simp, fun a ha b hb' => ?_⟩
      rw [List.mem_singleton.1 hb', ← hS']
      by_cases h0 : i = 0
      · subst h0; simp at ha
      · have hl : ltS (pt S ((i - 1 : Nat) : Int)) (pt S (i : Int)) := by
          apply Decidable.byContradiction
          intro hc
          have : segB E S i = true := by unfold segB; simp [show 0 < i by omega, hc]
          rw [this] at hb; cases hb
        have hx : S.take i = S.take (i - 1) ++ [S[i - 1]] := by
          have := take_snoc S (i - 1) (by omega)
          rwa [show i - 1 + 1 = i by omega] at this
        rw [pt_nat (show i - 1 < S.length by omega)] at hl
        rw [hx] at ha hI
        rcases List.mem_append.1 ha with h | h
        · exact ordS.tr ((List.pairwise_append.1 hI).2.2 _ h _ (by simp)) hl
        · rw [List.mem_singleton.1 h]; exact hl

theorem chkE (m : Nat) {M : Mesh} {T : List Tr} {n i : Int} (E0 : List Pt) (t : Tr) {N : Mesh → List (Pt × Bool) → List Tr → Int → Int → Option Int} {F : (Mesh × List (Pt × Bool) × List Tr × Int × Int × ((Pt × Pt × Pt) × Int)) → ((Mesh × List (Pt × Bool) × List Tr × Int × Int × ((Pt × Pt × Pt) × Int)) → Option Int) → Option Int}
    (hF : ∀ (x16 : Mesh) x17 x18 x19 x20 (x21 : Pt × Pt × Pt) x22 next15, F (x16, x17, x18, x19, x20, x21, x22) next15 =
       bif decide (x22 < 3) then
        meet (α := (Mesh × ((List ((Int × Int) × Bool)) × ((Int × Int) × ((List (Int × (Int × Int))) × (Int × (Int × (((Int × Int) × ((Int × Int) × (Int × Int))) × Int)))))))) (fun (y23, y24, y25, y26, y27, y28, y29, y30) =>
         bif toT Bool (lkM (.pair (.int .i64) (.int .i64)) .bool y24 (y25.1, y25.2)) then
          some 2
         else
          gd (!(hsM (.pair (.int .i64) (.int .i64)) .bool y24 (y25.1, y25.2))) <|
          next15 ((y23.1, y23.2.1, y23.2.2), adM (.pair (.int .i64) (.int .i64)) .bool y24 (y25.1, y25.2) true, y26, y27, y28, ((y29.1.1, y29.1.2), (y29.2.1.1, y29.2.1.2), y29.2.2.1, y29.2.2.2), w64 (y30 + 1))) fun j31 =>
        bif decide (x22 = 0) then
         j31 ((x16.1, x16.2.1, x16.2.2), x17, (x21.1.1, x21.1.2), x18, x19, x20, ((x21.1.1, x21.1.2), (x21.2.1.1, x21.2.1.2), x21.2.2.1, x21.2.2.2), x22)
        else
         bif decide (x22 = 1) then
          j31 ((x16.1, x16.2.1, x16.2.2), x17, (x21.2.1.1, x21.2.1.2), x18, x19, x20, ((x21.1.1, x21.1.2), (x21.2.1.1, x21.2.1.2), x21.2.2.1, x21.2.2.2), x22)
         else
          bif decide (x22 = 2) then
           j31 ((x16.1, x16.2.1, x16.2.2), x17, (x21.2.2.1, x21.2.2.2), x18, x19, x20, ((x21.1.1, x21.1.2), (x21.2.1.1, x21.2.1.2), x21.2.2.1, x21.2.2.2), x22)
          else
           none
       else N (x16.1, x16.2.1, x16.2.2) x17 x18 x19 x20) :
    loopN F (m + 1000) (M, yes E0, T, n, i, ((t.1, t.2.1), (t.2.1, t.2.2), t.2.2, t.1), 0) = bif (List.range 3).any (fun j => decide (sd t j ∈ E0 ++ (sides t).take j)) then some 2 else N M (yes (E0 ++ sides t)) T n i := by
  refine loop_anyE (fun j => (M, yes (E0 ++ (sides t).take j), T, n, i, ((t.1, t.2.1), (t.2.1, t.2.2), t.2.2, t.1), (j : Int))) 3 (fun j => decide (sd t j ∈ E0 ++ (sides t).take j)) (some 2) _ ?_ (fun nx => ?_) (fun j hj nx => ?_) _ (by omega)
  · simp [sides]
  · rw [hF, bif_F (by omega)]
    rfl
  · rw [hF, bif_T (by omega)]
    simp only [meet]
    rw [w64_id (x := (j : Int) + 1) (by omega) (by omega)]
    have key : ∀ s, s = sd t j → (bif toT Bool (lkM (.pair (.int .i64) (.int .i64)) .bool (yes (E0 ++ (sides t).take j)) s) then some 2 else gd (!(hsM (.pair (.int .i64) (.int .i64)) .bool (yes (E0 ++ (sides t).take j)) s)) (nx (M, adM (.pair (.int .i64) (.int .i64)) .bool (yes (E0 ++ (sides t).take j)) s true, T, n, i, ((t.1, t.2.1), (t.2.1, t.2.2), t.2.2, t.1), (j : Int) + 1))) = bif decide (sd t j ∈ E0 ++ (sides t).take j) then some 2 else nx (M, yes (E0 ++ (sides t).take (j + 1)), T, n, i, ((t.1, t.2.1), (t.2.1, t.2.2), t.2.2, t.1), ((j + 1 : Nat) : Int)) := by
      rintro s rfl
      have h0 := lk_yes (E0 ++ (sides t).take j) (sd t j)
      have h1 := hs_yes (E0 ++ (sides t).take j) (sd t j)
      have h2 := ad_yes (E0 ++ (sides t).take j) (sd t j)
      rw [show toT Bool (lkM (.pair (.int .i64) (.int .i64)) .bool (yes (E0 ++ (sides t).take j)) (sd t j)) = _ from h0, show hsM (.pair (.int .i64) (.int .i64)) .bool (yes (E0 ++ (sides t).take j)) (sd t j) = _ from h1, show adM (.pair (.int .i64) (.int .i64)) .bool (yes (E0 ++ (sides t).take j)) (sd t j) true = _ from h2, sides_take _ j hj, List.append_assoc]
      by_cases h : sd t j ∈ E0 ++ (sides t).take j
      · rw [decide_eq_true h]; rfl
      · rw [decide_eq_false h]; rfl
    match j, hj with
    | 0, _ => exact key _ rfl
    | 1, _ => exact key _ rfl
    | 2, _ => exact key _ rfl
theorem chk1 (m : Nat) {P : List Pt} {T : List Tr} {S : List Pt} (hp : P.length ≤ 200) (hT : T.length ≤ 900) {K : Mesh → List (Pt × Bool) → Option Int} {e : Option Int} (hK : K (P, T, S) (yes (Eo T T.length)) = e) {G : (Mesh × List (Pt × Bool) × List Tr × Int × Int → Option Int) → Mesh → List (Pt × Bool) → List Tr → Int → Int → Pt × Pt × Pt → Option Int}
    (hG : ∀ next (E0 : List Pt) (i : Int) (t : Tr), G next (P, T, S) (yes E0) T (T.length : Int) i ((t.1, t.2.1), (t.2.1, t.2.2), t.2.2, t.1) = bif (List.range 3).any (fun j => decide (sd t j ∈ E0 ++ (sides t).take j)) then some 2 else next ((P, T, S), yes (E0 ++ sides t), T, (T.length : Int), w64 (i + 1)))
    {F : (Mesh × List (Pt × Bool) × List Tr × Int × Int) → ((Mesh × List (Pt × Bool) × List Tr × Int × Int) → Option Int) → Option Int}
    (hF : ∀ (x1 : Mesh) x2 x3 x4 x5 next0, F (x1, x2, x3, x4, x5) next0 = bif decide (x5 < x4) then
    gd (inb x5 x3.length) <|
    bnd (g_fill_Tri (m + 1000) x1.1 (rdD (0, 0, 0) x3 x5).1 (rdD (0, 0, 0) x3 x5).2.1 (rdD (0, 0, 0) x3 x5).2.2) fun r6 =>
    meet (α := (Mesh × ((List ((Int × Int) × Bool)) × ((Int × (Int × Int)) × ((List (Int × (Int × Int))) × (Int × (Int × Bool))))))) (fun (y7, y8, y9, y10, y11, y12, y13) =>
     bif y13 then
      some 2
     else
      bnd (g_fill_edges (m + 1000) (y9.1, y9.2.1, y9.2.2)) fun r14 =>
      G next0 y7 y8 y10 y11 y12 r14) fun j32 =>
    bif !r6.2 then
     j32 ((x1.1, x1.2.1, x1.2.2), x2, ((rdD (0, 0, 0) x3 x5).1, (rdD (0, 0, 0) x3 x5).2.1, (rdD (0, 0, 0) x3 x5).2.2), x3, x4, x5, true)
    else
     bif !((decide (r6.1.1 = (rdD (0, 0, 0) x3 x5).1)) && ((decide (r6.1.2.1 = (rdD (0, 0, 0) x3 x5).2.1)) && (decide (r6.1.2.2 = (rdD (0, 0, 0) x3 x5).2.2)))) then
      j32 ((x1.1, x1.2.1, x1.2.2), x2, ((rdD (0, 0, 0) x3 x5).1, (rdD (0, 0, 0) x3 x5).2.1, (rdD (0, 0, 0) x3 x5).2.2), x3, x4, x5, true)
     else
      bif decide (x5 > 0) then
       gd (inb (w64 (x5 - 1)) x1.2.1.length) <|
       bnd (g_fill_byTri (m + 1000) ((rdD (0, 0, 0) x1.2.1 (w64 (x5 - 1))).1, (rdD (0, 0, 0) x1.2.1 (w64 (x5 - 1))).2.1, (rdD (0, 0, 0) x1.2.1 (w64 (x5 - 1))).2.2) ((rdD (0, 0, 0) x3 x5).1, (rdD (0, 0, 0) x3 x5).2.1, (rdD (0, 0, 0) x3 x5).2.2)) fun r33 =>
       j32 ((x1.1, x1.2.1, x1.2.2), x2, ((rdD (0, 0, 0) x3 x5).1, (rdD (0, 0, 0) x3 x5).2.1, (rdD (0, 0, 0) x3 x5).2.2), x3, x4, x5, decide (r33 ≥ 0))
      else
       j32 ((x1.1, x1.2.1, x1.2.2), x2, ((rdD (0, 0, 0) x3 x5).1, (rdD (0, 0, 0) x3 x5).2.1, (rdD (0, 0, 0) x3 x5).2.2), x3, x4, x5, false)
   else K x1 x2) :
    loopN F (m + 1000) ((P, T, S), [], T, (T.length : Int), 0) = bif (List.range T.length).any (fun i => triB P T i || edgB T i) then some 2 else e := by
  refine loop_anyE (fun i => ((P, T, S), yes (Eo T i), T, (T.length : Int), (i : Int))) T.length (fun i => triB P T i || edgB T i) (some 2) e rfl (fun next => ?_) (fun i hi next => ?_) (m + 1000) (by omega)
  · rw [hF, bif_F (by omega)]
    exact hK
  · have ht : tt T (i : Int) = T[i] := tt_nat hi
    rw [hF, bif_T (by omega), gd_t (inb_t ⟨by omega, by omega⟩)]
    have ep : ∀ i : Int, ((rdD (0, 0, 0) T i).1, (rdD (0, 0, 0) T i).2.1, (rdD (0, 0, 0) T i).2.2) = tt T i := fun _ => rfl
    have ep1 : ∀ i : Int, rdD (0, 0, 0) T i = tt T i := fun _ => rfl
    simp only [meet, ep, ep1, Tri_f m P _ _ _ (show P.length ≤ 1000 by omega), bnd_s, edges_f]
    have hL : G next (P, T, S) (yes (Eo T i)) T (T.length : Int) (i : Int) (((tt T (i : Int)).1, (tt T (i : Int)).2.1), ((tt T (i : Int)).2.1, (tt T (i : Int)).2.2), (tt T (i : Int)).2.2, (tt T (i : Int)).1) = bif edgB T i then some 2 else next ((P, T, S), yes (Eo T (i + 1)), T, (T.length : Int), ((i + 1 : Nat) : Int)) := by
      rw [hG, Eo_succ hi, ← ht, w64_id (x := (i : Int) + 1) (by omega) (by omega)]
      rfl
    rw [hL]
    by_cases h1 : (triv P (tt T i).1 (tt T i).2.1 (tt T i).2.2).2 = true
    · rw [h1]
      by_cases h2 : (triv P (tt T i).1 (tt T i).2.1 (tt T i).2.2).1 = tt T i
      · rw [h2]
        have ef : decide (triv P (tt T i).1 (tt T i).2.1 (tt T i).2.2 ≠ (tt T i, true)) = false := decide_eq_false (not_not_intro (Prod.ext h2 h1))
        simp only [decide_true, Bool.and_self, Bool.not_true, cF]
        by_cases h0 : i = 0
        · subst h0
          rw [bif_F (by omega)]
          have : triB P T 0 = false := by unfold triB; rw [ef]; rfl
          rw [this, Bool.false_or]
        · rw [bif_T (show (i : Int) > 0 by omega), w64_id (x := (i : Int) - 1) (by omega) (by omega), show (i : Int) - 1 = ((i - 1 : Nat) : Int) by omega, gd_t (inb_t ⟨by omega, by omega⟩), byT, bnd_s]
          by_cases hl : ltT (tt T ((i - 1 : Nat) : Int)) (tt T (i : Int))
          · rw [decide_eq_false (fun h => (cf57n _ _).1 h hl)]
            have : triB P T i = false := by unfold triB; rw [ef]; simp [hl]
            rw [this, Bool.false_or]; rfl
          · rw [decide_eq_true ((cf57n _ _).2 hl)]
            have : triB P T i = true := by unfold triB; simp [show 0 < i by omega, hl]
            rw [this]; rfl
      · have : triB P T i = true := by unfold triB; rw [decide_eq_true (show triv P (tt T i).1 (tt T i).2.1 (tt T i).2.2 ≠ (tt T i, true) from fun h => h2 (congrArg Prod.fst h)), Bool.true_or]
        rw [this]
        have hne : ((decide ((triv P (tt T i).1 (tt T i).2.1 (tt T i).2.2).1.1 = (tt T i).1)) && ((decide ((triv P (tt T i).1 (tt T i).2.1 (tt T i).2.2).1.2.1 = (tt T i).2.1)) && (decide ((triv P (tt T i).1 (tt T i).2.1 (tt T i).2.2).1.2.2 = (tt T i).2.2)))) = false := by
          rw [Bool.eq_false_iff]
          intro h
          simp only [Bool.and_eq_true, decide_eq_true_eq] at h
          exact h2 (Prod.ext h.1 (Prod.ext h.2.1 h.2.2))
        rw [hne]; rfl
    · have h1' : (triv P (tt T i).1 (tt T i).2.1 (tt T i).2.2).2 = false := by simpa using h1
      have : triB P T i = true := by unfold triB; rw [decide_eq_true (show triv P (tt T i).1 (tt T i).2.1 (tt T i).2.2 ≠ (tt T i, true) from fun h => h1 (congrArg Prod.snd h)), Bool.true_or]
      rw [h1', this]; rfl
theorem fCheck_f (m : Nat) (M : Mesh) (hp : M.1.length ≤ 200) (hT : M.2.1.length ≤ 200) (hS : M.2.2.length ≤ 200) : g_fill_Check (m + 1000) M = some (chkv M) := by
  obtain ⟨P, T, S⟩ := M
  dsimp only at hp hT hS
  unfold g_fill_Check b_fill_Check
  have ev : chkv (P, T, S) = bif (List.range T.length).any (fun i => triB P T i || edgB T i) then 2 else bif (List.range S.length).any (segB (Eo T T.length) S) then 2 else bif (Eo T T.length).any (rimB (Eo T T.length) S) then 2 else 0 := rfl
  rw [ev]
  show loopN _ (m + 1000) ((P, T, S), [], T, (T.length : Int), 0) = _
  generalize hE : Eo T T.length = E
  have hEl : E.length ≤ 600 := by
    rw [← hE]
    have : ∀ l : List Tr, (l.flatMap sides).length = 3 * l.length := by
      intro l
      induction l with
      | nil => rfl
      | cons t l ih => rw [List.flatMap_cons, List.length_append, ih]; show 3 + _ = _; rw [List.length_cons]; omega
    unfold Eo
    rw [List.take_length, this]
    omega
  refine Eq.trans (chk1 m (P := P) (T := T) (S := S) (e := bif (List.range S.length).any (segB E S) then some 2 else some (bif E.any (rimB E S) then 2 else 0)) (K := fun x1 x2 =>
          loopN (α := (((List (Int × Int)) × ((List (Int × (Int × Int))) × (List (Int × Int)))) × ((List ((Int × Int) × Bool)) × ((List ((Int × Int) × Bool)) × ((List (Int × Int)) × (Int × Int)))))) (fun (x35, x36, x37, x38, x39, x40) next34 =>
           bif decide (x40 < x39) then
            gd (inb x40 x38.length) <|
            meet (α := (((List (Int × Int)) × ((List (Int × (Int × Int))) × (List (Int × Int)))) × ((List ((Int × Int) × Bool)) × ((List ((Int × Int) × Bool)) × ((Int × Int) × ((List (Int × Int)) × (Int × (Int × Bool)))))))) (fun (y41, y42, y43, y44, y45, y46, y47, y48) =>
             bif y48 then
              some 2
             else
              gd (!(hsM (.pair (.int .i64) (.int .i64)) .bool y43 (y44.1, y44.2))) <|
              next34 ((y41.1, y41.2.1, y41.2.2), y42, adM (.pair (.int .i64) (.int .i64)) .bool y43 (y44.1, y44.2) true, y45, y46, w64 (y47 + 1))) fun j49 =>
            bif decide ((rdD (0, 0) x38 x40).1 ≥ (rdD (0, 0) x38 x40).2) then
             j49 ((x35.1, x35.2.1, x35.2.2), x36, x37, ((rdD (0, 0) x38 x40).1, (rdD (0, 0) x38 x40).2), x38, x39, x40, true)
            else
             bif decide (x40 > 0) then
              gd (inb (w64 (x40 - 1)) x35.2.2.length) <|
              bnd (g_fill_bySeg (m + 1000) ((rdD (0, 0) x35.2.2 (w64 (x40 - 1))).1, (rdD (0, 0) x35.2.2 (w64 (x40 - 1))).2) ((rdD (0, 0) x38 x40).1, (rdD (0, 0) x38 x40).2)) fun r50 =>
              bif decide (r50 ≥ 0) then
               j49 ((x35.1, x35.2.1, x35.2.2), x36, x37, ((rdD (0, 0) x38 x40).1, (rdD (0, 0) x38 x40).2), x38, x39, x40, true)
              else
               bif !(toT Bool (lkM (.pair (.int .i64) (.int .i64)) .bool x36 ((rdD (0, 0) x38 x40).1, (rdD (0, 0) x38 x40).2))) then
                j49 ((x35.1, x35.2.1, x35.2.2), x36, x37, ((rdD (0, 0) x38 x40).1, (rdD (0, 0) x38 x40).2), x38, x39, x40, !(toT Bool (lkM (.pair (.int .i64) (.int .i64)) .bool x36 ((rdD (0, 0) x38 x40).2, (rdD (0, 0) x38 x40).1))))
               else
                j49 ((x35.1, x35.2.1, x35.2.2), x36, x37, ((rdD (0, 0) x38 x40).1, (rdD (0, 0) x38 x40).2), x38, x39, x40, false)
             else
              bif !(toT Bool (lkM (.pair (.int .i64) (.int .i64)) .bool x36 ((rdD (0, 0) x38 x40).1, (rdD (0, 0) x38 x40).2))) then
               j49 ((x35.1, x35.2.1, x35.2.2), x36, x37, ((rdD (0, 0) x38 x40).1, (rdD (0, 0) x38 x40).2), x38, x39, x40, !(toT Bool (lkM (.pair (.int .i64) (.int .i64)) .bool x36 ((rdD (0, 0) x38 x40).2, (rdD (0, 0) x38 x40).1))))
              else
               j49 ((x35.1, x35.2.1, x35.2.2), x36, x37, ((rdD (0, 0) x38 x40).1, (rdD (0, 0) x38 x40).2), x38, x39, x40, false)
           else
            loopN (α := ((List ((Int × Int) × Bool)) × ((List ((Int × Int) × Bool)) × (List ((Int × Int) × Bool))))) (fun (x52, x53, x54) next51 =>
             nxt x54 (
              some 0) (fun (e56, e57) r55 =>
              meet (α := ((List ((Int × Int) × Bool)) × ((List ((Int × Int) × Bool)) × ((List ((Int × Int) × Bool)) × Bool)))) (fun (y58, y59, y60, y61) =>
               bif y61 then
                some 2
               else
                next51 (y58, y59, y60)) fun j62 =>
              bif !(toT Bool (lkM (.pair (.int .i64) (.int .i64)) .bool x52 (e56.2, e56.1))) then
               bnd (g_fill_up (m + 1000) (e56.1, e56.2)) fun r63 =>
               j62 (x52, x53, r55, !(toT Bool (lkM (.pair (.int .i64) (.int .i64)) .bool x53 (r63.1, r63.2))))
              else
               j62 (x52, x53, r55, false))) (m + 1000) (x36, x37, x36)) (m + 1000) ((x1.1, x1.2.1, x1.2.2), x2, [], x1.2.2, (x1.2.2.length : Int), 0)) (G := fun next0 y7 y8 y10 y11 y12 r14 =>
            loopN (α := (((List (Int × Int)) × ((List (Int × (Int × Int))) × (List (Int × Int)))) × ((List ((Int × Int) × Bool)) × ((List (Int × (Int × Int))) × (Int × (Int × (((Int × Int) × ((Int × Int) × (Int × Int))) × Int))))))) (fun (x16, x17, x18, x19, x20, x21, x22) next15 =>
             bif decide (x22 < 3) then
              meet (α := (((List (Int × Int)) × ((List (Int × (Int × Int))) × (List (Int × Int)))) × ((List ((Int × Int) × Bool)) × ((Int × Int) × ((List (Int × (Int × Int))) × (Int × (Int × (((Int × Int) × ((Int × Int) × (Int × Int))) × Int)))))))) (fun (y23, y24, y25, y26, y27, y28, y29, y30) =>
               bif toT Bool (lkM (.pair (.int .i64) (.int .i64)) .bool y24 (y25.1, y25.2)) then
                some 2
               else
                gd (!(hsM (.pair (.int .i64) (.int .i64)) .bool y24 (y25.1, y25.2))) <|
                next15 ((y23.1, y23.2.1, y23.2.2), adM (.pair (.int .i64) (.int .i64)) .bool y24 (y25.1, y25.2) true, y26, y27, y28, ((y29.1.1, y29.1.2), (y29.2.1.1, y29.2.1.2), y29.2.2.1, y29.2.2.2), w64 (y30 + 1))) fun j31 =>
              bif decide (x22 = 0) then
               j31 ((x16.1, x16.2.1, x16.2.2), x17, (x21.1.1, x21.1.2), x18, x19, x20, ((x21.1.1, x21.1.2), (x21.2.1.1, x21.2.1.2), x21.2.2.1, x21.2.2.2), x22)
              else
               bif decide (x22 = 1) then
                j31 ((x16.1, x16.2.1, x16.2.2), x17, (x21.2.1.1, x21.2.1.2), x18, x19, x20, ((x21.1.1, x21.1.2), (x21.2.1.1, x21.2.1.2), x21.2.2.1, x21.2.2.2), x22)
               else
                bif decide (x22 = 2) then
                 j31 ((x16.1, x16.2.1, x16.2.2), x17, (x21.2.2.1, x21.2.2.2), x18, x19, x20, ((x21.1.1, x21.1.2), (x21.2.1.1, x21.2.1.2), x21.2.2.1, x21.2.2.2), x22)
                else
                 none
             else
              next0 ((x16.1, x16.2.1, x16.2.2), x17, x18, x19, w64 (x20 + 1))) (m + 1000) ((y7.1, y7.2.1, y7.2.2), y8, y10, y11, y12, ((r14.1.1, r14.1.2), (r14.2.1.1, r14.2.1.2), r14.2.2.1, r14.2.2.2), 0)) hp (by omega) ?hK ?hG (fun _ _ _ _ _ _ => rfl)) ?_
  case hK =>
    rw [hE]
    refine chk2 m (P := P) (T := T) (E := E) (S := S) (by omega) ?_ (fun _ _ _ _ _ _ _ => rfl)
    exact chk3 m (by omega) (fun _ _ _ _ => rfl)
  case hG =>
    intro next E0 i t
    exact chkE m E0 t (N := fun a b c d e => next (a, b, c, d, w64 (e + 1))) (fun _ _ _ _ _ _ _ _ => rfl)
  cases (List.range T.length).any (fun i => triB P T i || edgB T i) <;> cases (List.range S.length).any (segB E S) <;> rfl
end Go.Proofs.YtpkkcjmblocjdaaGreat.Pure
end
/- The reference's Check: the parts. -/
section
set_option linter.unusedVariables false
set_option linter.unusedSimpArgs false
namespace Go.Proofs.YtpkkcjmblocjdaaGreat.Pure
open Go.RowKit Go.Proofs.YtpkkcjmblocjdaaGreat.AM PL

def hasv (l : List Pt) (a b : Int) : Bool := l.any fun s => decide ((s.1 = a ∧ s.2 = b) ∨ (s.1 = b ∧ s.2 = a))
theorem range_any {α : Type} (d : α) (l : List α) (b : α → Bool) : (List.range l.length).any (fun i => b (rdD d l (i : Int))) = l.any b := by
  rw [Bool.eq_iff_iff, List.any_eq_true, List.any_eq_true]
  constructor
  · rintro ⟨i, hi, h⟩
    rw [List.mem_range] at hi
    rw [rd_get d l i hi] at h
    exact ⟨_, List.getElem_mem hi, h⟩
  · rintro ⟨x, hx, h⟩
    obtain ⟨i, hi, rfl⟩ := List.getElem_of_mem hx
    refine ⟨i, List.mem_range.2 hi, ?_⟩
    rw [rd_get d l i hi]
    exact h
theorem Has_f (m : Nat) (l : List Pt) (a b : Int) (hl : l.length ≤ 900) : g_parquetref12_Has (m + 1000) l a b = some (hasv l a b) := by
  unfold g_parquetref12_Has
  refine (loop_anyE (fun i => (l, a, b, (i : Int))) l.length (fun i => decide (((rdD (0, 0) l (i : Int)).1 = a ∧ (rdD (0, 0) l (i : Int)).2 = b) ∨ ((rdD (0, 0) l (i : Int)).1 = b ∧ (rdD (0, 0) l (i : Int)).2 = a))) (some true) (some false) rfl (fun nx => ?_) (fun i hi nx => ?_) (m + 1000) (by omega)).trans ?_
  · dsimp only
    rw [bif_F (by omega)]
  · dsimp only
    have hin : inb (i : Int) l.length = true := inb_t ⟨by omega, by omega⟩
    simp only [meet, hin, gT]
    rw [bif_T (by omega), w64_id (x := (i : Int) + 1) (by omega) (by omega)]
    generalize rdD (0, 0) l (i : Int) = s
    have no : ¬ (s.1 = b ∧ s.2 = a) → ¬ (s.1 = a ∧ s.2 = b) → decide ((s.1 = a ∧ s.2 = b) ∨ (s.1 = b ∧ s.2 = a)) = false := fun h1 h2 => decide_eq_false (fun h => h.elim h2 h1)
    by_cases h1 : s.1 = a
    · rw [bif_T h1]
      by_cases h2 : s.2 = b
      · rw [bif_T h2, decide_eq_true (show (s.1 = a ∧ s.2 = b) ∨ (s.1 = b ∧ s.2 = a) from .inl ⟨h1, h2⟩)]; rfl
      · rw [bif_F h2]
        by_cases h3 : s.1 = b
        · rw [bif_T h3]
          by_cases h4 : s.2 = a
          · rw [decide_eq_true h4, decide_eq_true (show (s.1 = a ∧ s.2 = b) ∨ (s.1 = b ∧ s.2 = a) from .inr ⟨h3, h4⟩)]; rfl
          · rw [decide_eq_false h4, no (fun h => h4 h.2) (fun h => h2 h.2)]; rfl
        · rw [bif_F h3, no (fun h => h3 h.1) (fun h => h2 h.2)]; rfl
    · rw [bif_F h1]
      by_cases h3 : s.1 = b
      · rw [bif_T h3]
        by_cases h4 : s.2 = a
        · rw [decide_eq_true h4, decide_eq_true (show (s.1 = a ∧ s.2 = b) ∨ (s.1 = b ∧ s.2 = a) from .inr ⟨h3, h4⟩)]; rfl
        · rw [decide_eq_false h4, no (fun h => h4 h.2) (fun h => h1 h.1)]; rfl
      · rw [bif_F h3, no (fun h => h3 h.1) (fun h => h1 h.1)]; rfl
  · rw [range_any (0, 0) l fun s => decide ((s.1 = a ∧ s.2 = b) ∨ (s.1 = b ∧ s.2 = a))]
    show _ = some (l.any _)
    cases l.any fun s => decide ((s.1 = a ∧ s.2 = b) ∨ (s.1 = b ∧ s.2 = a)) <;> rfl
end Go.Proofs.YtpkkcjmblocjdaaGreat.Pure
end
/- The reference's Check. -/
section
set_option linter.unusedVariables false
set_option linter.unusedSimpArgs false
namespace Go.Proofs.YtpkkcjmblocjdaaGreat.Pure
open Go.RowKit Go.Proofs.YtpkkcjmblocjdaaGreat.AM PL

end Go.Proofs.YtpkkcjmblocjdaaGreat.Pure
end
/- Both Checks say the same. -/
section
set_option linter.unusedVariables false
set_option linter.unusedSimpArgs false
namespace Go.Proofs.YtpkkcjmblocjdaaGreat.Pure
open Go.RowKit Go.Proofs.YtpkkcjmblocjdaaGreat.AM PL

end Go.Proofs.YtpkkcjmblocjdaaGreat.Pure
end
/- fill.segs, fill.goes, fill.Edges. -/
section
set_option linter.unusedVariables false
set_option linter.unusedSimpArgs false
namespace Go.Proofs.YtpkkcjmblocjdaaGreat.Pure
open Go.RowKit Go.Proofs.YtpkkcjmblocjdaaGreat.AM PL

theorem concat_f (m : Nat) (a b : List Pt) (ha : a.length ≤ 1000) (hb : b.length ≤ 1000) : g_api_Seg (m + 1000) [a, b] = some (a ++ b) := by
  unfold g_api_Seg
  have e0 : rdD [] [a, b] ((0 : Nat) : Int) = a := rfl
  have e1 : rdD [] [a, b] ((1 : Nat) : Int) = b := rfl
  refine loop_from (fun i => ([a, b], (if i = 0 then 0 else if i = 1 then (a.length : Int) else (a.length : Int) + (b.length : Int)), [a, b], 2, (i : Int))) 2 rfl (fun next => ?_) (fun i hi next hn => ?_) _ (by omega)
  · dsimp only
    rw [bif_F (by omega)]
    simp only [show ((2 : Nat) = 0) = False from by simp, show ((2 : Nat) = 1) = False from by simp, if_false]
    rw [gd_t (decide_eq_true (by omega)), gd_t (show fewI ((a.length : Int) + (b.length : Int)) = true by unfold fewI; exact decide_eq_true (by omega))]
    refine loop_from (fun i => ((if i = 0 then [] else if i = 1 then a else a ++ b), [a, b], 2, (i : Int))) 2 rfl (fun next => ?_) (fun i hi next hn => ?_) _ (by omega)
    · dsimp only
      rw [bif_F (by omega)]; rfl
    · dsimp only
      rw [bif_T (by omega), gd_t (inb_t ⟨by omega, by simp; omega⟩), w64_id (x := (i : Int) + 1) (by omega) (by omega), ← hn]
      match i, hi with
      | 0, _ => rw [gd_t (few_t (by rw [e0]; simp; omega)), e0]; rfl
      | 1, _ => rw [gd_t (few_t (by rw [e1]; simp; omega)), e1]; rfl
  · dsimp only
    simp only [meet]
    rw [bif_T (by omega), gd_t (inb_t ⟨by omega, by simp; omega⟩), w64_id (x := (i : Int) + 1) (by omega) (by omega), ← hn]
    match i, hi with
    | 0, _ =>
      rw [e0]
      simp only [if_true]
      rw [w64_id (by omega) (by omega), bif_F (by omega), Int.zero_add]
      rfl
    | 1, _ =>
      rw [e1]
      simp only [show ((1 : Nat) = 0) = False from by simp, if_false, if_true]
      rw [w64_id (by omega) (by omega), bif_F (by omega)]
      rfl
def segsv (p : Poly) : List Pt := srtL cf_49 ((sgs p).map up)
theorem segs_fl (m : Nat) (p : Poly) (h1 : p.2.1.length ≤ 400) (h2 : p.2.2.length ≤ 400) : g_fill_segs (m + 1000) p = some (segsv p) := by
  unfold g_fill_segs b_fill_segs
  rw [concat_f m _ _ (by omega) (by omega), bnd_s]
  have hl : (p.2.1 ++ p.2.2).length ≤ 800 := by rw [List.length_append]; omega
  refine loop_from (fun i => (((p.2.1 ++ p.2.2).take i).map up, p.2.1 ++ p.2.2, ((p.2.1 ++ p.2.2).length : Int), (i : Int))) (p.2.1 ++ p.2.2).length rfl (fun next => ?_) (fun i hi next hn => ?_) _ (by omega)
  · dsimp only
    rw [bif_F (by omega), List.take_length, gd_t (few_t (by rw [List.length_map]; omega))]
    rfl
  · dsimp only
    rw [bif_T (by omega), gd_t (inb_t ⟨by omega, by omega⟩), rd_get _ _ i hi, up_f, bnd_s, gd_t (few_t (by simp only [List.length_map, List.length_take]; omega)), w64_id (x := (i : Int) + 1) (by omega) (by omega), ← hn, map_snoc _ _ _ hi]
    rfl
def insB (P : List Pt) (a b : Int) : Bool := P.any fun q => decide (Ins (pt P a) (pt P b) q)
def crsB (P l : List Pt) (a b : Int) : Bool := l.any fun s => decide ((segs (pt P a) (pt P b) (pt P s.1) (pt P s.2)).1 > 1)
def goesv (p : Poly) (l : List Pt) (a b : Int) : Bool := !insB p.1 a b && (!crsB p.1 l a b && decide ((midv p.1 p.2.1 [a, b]).1 = 1))
theorem bifs (b c : Bool) : (bif b then some false else some c) = some (!b && c) := by cases b <;> rfl
theorem goes_f (m : Nat) {p : Poly} {l : List Pt} {a b : Int} (hp : p.1.length ≤ 300) (hL : p.2.1.length ≤ 350) (hl : l.length ≤ 900) (ha : inr a p.1.length) (hb : inr b p.1.length) (hs : ∀ s ∈ l, oks p.1.length s) : g_fill_goes (m + 1000) p l a b = some (goesv p l a b) := by
  unfold g_fill_goes b_fill_goes goesv
  have ep : ∀ i : Int, ((rdD (0, 0) p.1 i).1, (rdD (0, 0) p.1 i).2) = pt p.1 i := fun _ => rfl
  refine (loop_anyE (fun i => (l, a, b, p, p.1, (p.1.length : Int), (i : Int))) p.1.length (fun i => decide (Ins (pt p.1 a) (pt p.1 b) (rdD (0, 0) p.1 (i : Int)))) (some false) (some (!crsB p.1 l a b && decide ((midv p.1 p.2.1 [a, b]).1 = 1))) rfl (fun next => ?_) (fun i hi next => ?_) _ (by omega)).trans ?_
  · dsimp only
    rw [bif_F (by omega)]
    refine (loop_anyE (fun i => (a, b, p, l, (l.length : Int), (i : Int))) l.length (fun i => decide ((segs (pt p.1 a) (pt p.1 b) (pt p.1 (rdD (0, 0) l (i : Int)).1) (pt p.1 (rdD (0, 0) l (i : Int)).2)).1 > 1)) (some false) (some (decide ((midv p.1 p.2.1 [a, b]).1 = 1))) rfl (fun next => ?_) (fun i hi next => ?_) _ (by omega)).trans ?_
    · dsimp only
      rw [bif_F (by omega), halfT m _ _ _ _ hL, bnd_s]
    · dsimp only
      have h0 := hs _ (List.getElem_mem hi)
      rw [bif_T (by omega), gd_t (inb_t ⟨by omega, by omega⟩), gd_t (inb_t ha), gd_t (inb_t hb), rd_get _ l i hi, gd_t (inb_t h0.1), gd_t (inb_t h0.2), ep, ep, ep, ep, segsT, bnd_s, w64_id (x := (i : Int) + 1) (by omega) (by omega)]
      rfl
    · rw [range_any (0, 0) l fun s => decide ((segs (pt p.1 a) (pt p.1 b) (pt p.1 s.1) (pt p.1 s.2)).1 > 1)]
      exact bifs _ _
  · dsimp only
    rw [bif_T (by omega), gd_t (inb_t ⟨by omega, by omega⟩), gd_t (inb_t ha), gd_t (inb_t hb), ep, ep, ep, insdT, bnd_s, w64_id (x := (i : Int) + 1) (by omega) (by omega)]
    rfl
  · rw [range_any (0, 0) p.1 fun q => decide (Ins (pt p.1 a) (pt p.1 b) q)]
    exact bifs _ _
def stepE (p : Poly) (a : Nat) (l : List Pt) (b : Nat) : List Pt := if goesv p l (a : Int) (b : Int) = true then l ++ [((a : Int), (b : Int))] else l
def innE (p : Poly) (a j : Nat) (l : List Pt) : List Pt := (List.range' (a + 1) j).foldl (stepE p a) l
def outE (p : Poly) (j : Nat) (l : List Pt) : List Pt := (List.range j).foldl (fun l a => innE p a (p.1.length - (a + 1)) l) l
theorem innE_succ (p : Poly) (a j : Nat) (l : List Pt) : innE p a (j + 1) l = stepE p a (innE p a j l) (a + 1 + j) := by
  unfold innE
  rw [List.range'_concat, List.foldl_append, Nat.one_mul]
  rfl
theorem outE_succ (p : Poly) (j : Nat) (l : List Pt) : outE p (j + 1) l = innE p j (p.1.length - (j + 1)) (outE p j l) := by
  unfold outE
  rw [List.range_succ, List.foldl_append]
  rfl
structure EdgI (p : Poly) (l : List Pt) (c : Nat) : Prop where
  ok : ∀ s ∈ l, oks p.1.length s
  len : l.length ≤ 120 + c
theorem EdgI.step {p : Poly} {l : List Pt} {c a b : Nat} (h : EdgI p l c) (ha : a < p.1.length) (hb : b < p.1.length) : EdgI p (stepE p a l b) (c + 1) := by
  unfold stepE
  split
  · refine ⟨fun s hs => ?_, by rw [List.length_append]; have := h.len; simp; omega⟩
    rcases List.mem_append.1 hs with hs | hs
    · exact h.ok s hs
    · rw [List.mem_singleton.1 hs]
      exact ⟨⟨by omega, by dsimp only; omega⟩, ⟨by omega, by dsimp only; omega⟩⟩
  · exact ⟨h.ok, by have := h.len; omega⟩
theorem EdgI.inn {p : Poly} {l : List Pt} {c a : Nat} (h : EdgI p l c) : ∀ j, a + 1 + j ≤ p.1.length → EdgI p (innE p a j l) (c + j)
  | 0, _ => h
  | j + 1, hj => by
    rw [innE_succ]
    exact (h.inn j (by omega)).step (by omega) (by omega)
theorem EdgI.out {p : Poly} {l : List Pt} (h : EdgI p l 0) : ∀ j, j ≤ p.1.length → EdgI p (outE p j l) (24 * j) ∨ 24 < p.1.length
  | 0, _ => .inl h
  | j + 1, hj => by
    by_cases hn : 24 < p.1.length
    · exact .inr hn
    · rcases h.out j (by omega) with h1 | h1
      · refine .inl ?_
        rw [outE_succ]
        have h2 := h1.inn (a := j) (p.1.length - (j + 1)) (by omega)
        exact ⟨h2.ok, by have := h2.len; omega⟩
      · exact .inr h1
theorem up_ok {n : Nat} {s : Pt} (h : oks n s) : oks n (up s) := by
  obtain ⟨⟨h1, h2⟩, ⟨h3, h4⟩⟩ := h
  refine ⟨⟨?_, ?_⟩, ⟨?_, ?_⟩⟩ <;> (unfold up mnI mxI; dsimp only; split <;> omega)
theorem segsv_len (p : Poly) : (segsv p).length = (sgs p).length := by unfold segsv; rw [(srtL_prm _ _).length_eq, List.length_map]
theorem segsv_mem (p : Poly) (s : Pt) : s ∈ segsv p ↔ ∃ q ∈ sgs p, up q = s := by unfold segsv; rw [(srtL_prm _ _).mem_iff, List.mem_map]
theorem segsv_I {p : Poly} (h : Sm p) (h1 : p.2.1.length ≤ 60) (h2 : p.2.2.length ≤ 60) : EdgI p (segsv p) 0 := by
  refine ⟨fun s hs => ?_, ?_⟩
  · obtain ⟨q, hq, rfl⟩ := (segsv_mem p s).1 hs
    exact up_ok (h.s q hq)
  · rw [segsv_len]
    show (p.2.1 ++ p.2.2).length ≤ _
    rw [List.length_append]; omega
def edgesv (p : Poly) : List Pt := srtL cf_49 (outE p p.1.length (segsv p))
theorem fright_f (m : Nat) {p : Poly} (h : Sm p) : g_fill_right (m + 1000) p = some (good0 p) := by
  unfold g_fill_right b_fill_right
  rw [show g_valid_First (m + 1000) (p.1, p.2.1, p.2.2) = some (flaw p, 0) from First_ok m h, bnd_s]
  rfl
theorem fright_bad (m : Nat) {p : Poly} (h : chk p = false) : g_fill_right (m + 1000) p = some false := by
  unfold g_fill_right b_fill_right
  rw [show g_valid_First (m + 1000) (p.1, p.2.1, p.2.2) = some (fz, 2) from First_bad m h, bnd_s]
  rfl
theorem Edges_bad (m : Nat) {p : Poly} (h : chk p = false) : g_fill_Edges (m + 1000) p = some ([], 2) := by
  unfold g_fill_Edges b_fill_Edges
  rw [show g_fill_right (m + 1000) (p.1, p.2.1, p.2.2) = _ from fright_bad m h, bnd_s]
  rfl
structure Few (p : Poly) : Prop where
  sm : Sm p
  n : p.1.length ≤ 24
  l : p.2.1.length ≤ 60
  i : p.2.2.length ≤ 60
theorem Edges_f (m : Nat) {p : Poly} (h : Few p) : g_fill_Edges (m + 1000) p = some (if good0 p = true then (edgesv p, 0) else ([], 2)) := by
  unfold g_fill_Edges b_fill_Edges
  rw [show g_fill_right (m + 1000) (p.1, p.2.1, p.2.2) = _ from fright_f m h.sm, bnd_s]
  cases hg : good0 p with
  | false => rfl
  | true =>
    simp only [Bool.not_true, cF, if_true]
    have hn := h.n; have hL := h.l; have hI := h.i
    rw [show g_fill_segs (m + 1000) (p.1, p.2.1, p.2.2) = _ from segs_fl m p (by omega) (by omega), bnd_s]
    have I0 := segsv_I h.sm hL hI
    have IO : ∀ j, j ≤ p.1.length → EdgI p (outE p j (segsv p)) (24 * j) := fun j hj => (I0.out j hj).resolve_right (by omega)
    refine loop_from (fun i => (p, outE p i (segsv p), (p.1.length : Int), (i : Int))) p.1.length rfl (fun next => ?_) (fun i hi next hn' => ?_) _ (by omega)
    · dsimp only
      have := (IO p.1.length (Nat.le_refl _)).len
      rw [bif_F (by omega), gd_t (few_t (by omega))]
      rfl
    · dsimp only
      have Ii := IO i (by omega)
      rw [bif_T (by omega), w64_id (x := (i : Int) + 1) (by omega) (by omega)]
      refine loop_from (fun j => (p, innE p i j (outE p i (segsv p)), (i : Int), ((i + 1 + j : Nat) : Int), (p.1.length : Int), (i : Int))) (p.1.length - (i + 1)) ?_ (fun nx => ?_) (fun j hj nx hnx => ?_) _ (by omega)
      · rfl
      · dsimp only
        rw [bif_F (by omega), ← hn', outE_succ, w64_id (x := (i : Int) + 1) (by omega) (by omega)]
        rfl
      · dsimp only
        have Ij := Ii.inn (a := i) j (by omega)
        have hlen := Ij.len
        simp only [meet]
        rw [bif_T (by omega), show g_fill_goes (m + 1000) (p.1, p.2.1, p.2.2) _ _ _ = _ from goes_f m (p := p) (l := innE p i j (outE p i (segsv p))) (a := (i : Int)) (b := ((i + 1 + j : Nat) : Int)) (by omega) (by omega) (by omega) ⟨by omega, by omega⟩ ⟨by omega, by omega⟩ Ij.ok, bnd_s, w64_id (x := ((i + 1 + j : Nat) : Int) + 1) (by omega) (by omega), ← hnx, innE_succ]
        unfold stepE
        cases hgo : goesv p (innE p i j (outE p i (segsv p))) (i : Int) ((i + 1 + j : Nat) : Int) with
        | true => rw [cT, gd_t (few_t (by omega)), if_pos rfl]; rfl
        | false => rw [cF, if_neg (by decide)]; rfl
end Go.Proofs.YtpkkcjmblocjdaaGreat.Pure
end
/- What holds of the edges that go into a right input. -/
section
set_option linter.unusedVariables false
set_option linter.unusedSimpArgs false
namespace Go.Proofs.YtpkkcjmblocjdaaGreat.Pure
open Go.RowKit Go.Proofs.YtpkkcjmblocjdaaGreat.AM PL

theorem Fine.dist {p : Poly} (h : Fine p) {i j : Nat} (hi : i < p.1.length) (hj : j < p.1.length) (e : pt p.1 (i : Int) = pt p.1 (j : Int)) : i = j := by
  have hall := (srch_spec (alk p.1) (n := p.1.length) _ 0 rfl (Nat.zero_le _)).1 h.n1
  rcases Nat.lt_trichotomy i j with hlt | he | hgt
  · exact absurd (decide_eq_true e) (by have := hall i j (by omega) hlt hj; unfold alk at this; rw [this]; decide)
  · exact he
  · exact absurd (decide_eq_true e.symm) (by have := hall j i (by omega) hgt hi; unfold alk at this; rw [this]; decide)
theorem Fine.distI {p : Poly} (h : Fine p) {i j : Int} (hi : inr i p.1.length) (hj : inr j p.1.length) (e : pt p.1 i = pt p.1 j) : i = j := by
  obtain ⟨h1, h2⟩ := hi
  obtain ⟨h3, h4⟩ := hj
  have := h.dist (i := i.toNat) (j := j.toNat) (by omega) (by omega) (by rwa [Int.toNat_of_nonneg h1, Int.toNat_of_nonneg h3])
  omega
theorem crsB_false {P l : List Pt} {a b : Int} : crsB P l a b = false ↔ ∀ s ∈ l, (segs (pt P a) (pt P b) (pt P s.1) (pt P s.2)).1 ≤ 1 := by
  unfold crsB
  rw [List.any_eq_false]
  constructor
  · intro h s hs
    have := h s hs
    rw [decide_eq_true_eq] at this
    omega
  · intro h s hs
    have := h s hs
    rw [decide_eq_true_eq]
    omega
theorem goesv_true {p : Poly} {l : List Pt} {a b : Int} : goesv p l a b = true ↔ insB p.1 a b = false ∧ crsB p.1 l a b = false ∧ (midv p.1 p.2.1 [a, b]).1 = 1 := by
  unfold goesv
  simp
theorem goesv_anti {p : Poly} {l l' : List Pt} {a b : Int} (h : ∀ s ∈ l, s ∈ l') (hg : goesv p l' a b = true) : goesv p l a b = true := by
  rw [goesv_true] at *
  exact ⟨hg.1, crsB_false.2 fun s hs => crsB_false.1 hg.2.1 s (h s hs), hg.2.2⟩
theorem goes_new {p : Poly} (hF : Fine p) {l : List Pt} {a b : Int} (ha : inr a p.1.length) (hb : inr b p.1.length) (hab : a ≠ b) (h : goesv p l a b = true) : (a, b) ∉ l := by
  intro hm
  have h1 := crsB_false.1 (goesv_true.1 h).2.1 _ hm
  dsimp only at h1
  rw [segs_same (fun e => hab (hF.distI ha hb e)) (hF.sm.fit ha) (hF.sm.fit hb)] at h1
  omega
structure EdgJ (p : Poly) (l : List Pt) : Prop where
  ok : ∀ s ∈ l, oks p.1.length s ∧ s.1 < s.2
  nd : l.Nodup
  apart : l.Pairwise fun s q => (segs (pt p.1 q.1) (pt p.1 q.2) (pt p.1 s.1) (pt p.1 s.2)).1 ≤ 1
  old : ∀ s ∈ segsv p, s ∈ l
  new : ∀ s ∈ l, s ∈ segsv p ∨ (insB p.1 s.1 s.2 = false ∧ (midv p.1 p.2.1 [s.1, s.2]).1 = 1)
theorem EdgJ.step {p : Poly} (hF : Fine p) {l : List Pt} {a b : Nat} (h : EdgJ p l) (hab : a < b) (hb : b < p.1.length) : EdgJ p (stepE p a l b) := by
  have ha' : inr (a : Int) p.1.length := ⟨by omega, by omega⟩
  have hb' : inr (b : Int) p.1.length := ⟨by omega, by omega⟩
  unfold stepE
  split
  · rename_i hg
    have hno := goes_new hF ha' hb' (by omega) hg
    have hg' := goesv_true.1 hg
    refine ⟨fun s hs => ?_, ?_, ?_, fun s hs => List.mem_append_left _ (h.old s hs), fun s hs => ?_⟩
    · rcases List.mem_append.1 hs with hs | hs
      · exact h.ok s hs
      · rw [List.mem_singleton.1 hs]
        exact ⟨⟨ha', hb'⟩, by dsimp only; omega⟩
    · rw [List.nodup_append]
      exact ⟨h.nd, by simp, fun x hx y hy e => hno (by rw [List.mem_singleton.1 hy] at e; rw [← e]; exact hx)⟩
    · rw [List.pairwise_append]
      refine ⟨h.apart, by simp, fun s hs q hq => ?_⟩
      rw [List.mem_singleton.1 hq]
      exact crsB_false.1 hg'.2.1 s hs
    · rcases List.mem_append.1 hs with hs | hs
      · exact h.new s hs
      · rw [List.mem_singleton.1 hs]
        exact .inr ⟨hg'.1, hg'.2.2⟩
  · exact h
theorem EdgJ.inn {p : Poly} (hF : Fine p) {l : List Pt} {a : Nat} (h : EdgJ p l) : ∀ j, a + 1 + j ≤ p.1.length → EdgJ p (innE p a j l)
  | 0, _ => h
  | j + 1, hj => by
    rw [innE_succ]
    exact (EdgJ.inn hF h j (by omega)).step hF (by omega) (by omega)
theorem EdgJ.out {p : Poly} (hF : Fine p) {l : List Pt} (h : EdgJ p l) : ∀ j, j ≤ p.1.length → EdgJ p (outE p j l)
  | 0, _ => h
  | j + 1, hj => by
    rw [outE_succ]
    exact (EdgJ.out hF h j (by omega)).inn hF _ (by omega)
theorem up_lt {s : Pt} (h : s.1 ≠ s.2) : (up s).1 < (up s).2 := by
  unfold up mnI mxI
  dsimp only
  (repeat' split) <;> omega
theorem up_cases (s : Pt) : up s = s ∨ up s = rv s := by
  unfold up rv mnI mxI
  by_cases h : s.1 ≤ s.2
  · refine .inl (Prod.ext ?_ ?_) <;> (dsimp only; split <;> omega)
  · refine .inr (Prod.ext ?_ ?_) <;> (dsimp only; split <;> omega)
theorem segs_up (P : List Pt) (s : Pt) (c d : Pt) : segs (pt P (up s).1) (pt P (up s).2) c d = segs (pt P s.1) (pt P s.2) c d := by
  rcases up_cases s with e | e
  · rw [e]
  · rw [e]
    unfold rv
    exact segs_swap _ _ _ _
theorem apart_sgs {p : Poly} (hF : Fine p) : (sgs p).Pairwise fun s q => (segs (pt p.1 q.1) (pt p.1 q.2) (pt p.1 s.1) (pt p.1 s.2)).1 ≤ 1 := by
  have hall := (srch_spec (crossing (ens p)) (n := (ens p).length) _ 0 rfl (Nat.zero_le _)).1 hF.n3
  rw [List.pairwise_iff_getElem]
  intro i j hi hj hij
  have := hall i j (by omega) hij (by rw [ens_len]; exact hj)
  unfold crossing at this
  rw [sat_ens p hi, sat_ens p hj, pt_nat hi, pt_nat hj] at this
  have := of_decide_eq_false this
  unfold en at this
  dsimp only at this
  rw [segs_turn]
  omega
theorem segsv_J {p : Poly} (hF : Fine p) : EdgJ p (segsv p) := by
  have hnd : ((sgs p).map up).Nodup := by
    rw [List.nodup_iff_pairwise_ne, List.pairwise_map]
    exact hF.two
  refine ⟨fun s hs => ?_, (srtL_prm _ _).symm.nodup hnd, ?_, fun s hs => hs, fun s hs => .inl hs⟩
  · obtain ⟨q, hq, rfl⟩ := (segsv_mem p s).1 hs
    exact ⟨up_ok (hF.sm.s q hq), up_lt (hF.ok q hq).2⟩
  · have h1 : ((sgs p).map up).Pairwise fun s q => (segs (pt p.1 q.1) (pt p.1 q.2) (pt p.1 s.1) (pt p.1 s.2)).1 ≤ 1 := by
      rw [List.pairwise_map]
      refine (apart_sgs hF).imp fun {s q} h => ?_
      rw [segs_up, segs_turn, segs_up, segs_turn]
      exact h
    exact ((srtL_prm cf_49 ((sgs p).map up)).pairwise_iff (fun {s q} h => by rw [segs_turn]; exact h)).2 h1
def edg (p : Poly) : List Pt := outE p p.1.length (segsv p)
theorem edg_J {p : Poly} (hF : Fine p) : EdgJ p (edg p) := (segsv_J hF).out hF _ (Nat.le_refl _)
theorem edgesv_mem (p : Poly) (s : Pt) : s ∈ edgesv p ↔ s ∈ edg p := (srtL_prm cf_49 (edg p)).mem_iff
theorem edgesv_srt {p : Poly} (hF : Fine p) : (edgesv p).Pairwise ltS := ordS.srt cf49 (edg_J hF).nd
end Go.Proofs.YtpkkcjmblocjdaaGreat.Pure
end
/- fill.Make. -/
section
set_option linter.unusedVariables false
set_option linter.unusedSimpArgs false
namespace Go.Proofs.YtpkkcjmblocjdaaGreat.Pure
open Go.RowKit Go.Proofs.YtpkkcjmblocjdaaGreat.AM PL

def inT (P : List Pt) (t : Tr) (q : Pt) : Bool := decide (ori (pt P t.1) (pt P t.2.1) q ≥ 0) && (decide (ori (pt P t.2.1) (pt P t.2.2) q ≥ 0) && decide (ori (pt P t.2.2) (pt P t.1) q ≥ 0))
def othB (t : Tr) (i : Int) : Bool := !(decide (i = t.1)) && (!(decide (i = t.2.1)) && !(decide (i = t.2.2)))
def empV (P : List Pt) (t : Tr) : Bool := !((List.range P.length).any fun i => othB t (i : Int) && inT P t (pt P (i : Int)))
theorem in_fl (m : Nat) {P : List Pt} {t : Tr} (h : inr t.1 P.length ∧ inr t.2.1 P.length ∧ inr t.2.2 P.length) (q : Pt) : g_fill_in (m + 1000) P t q = some (inT P t q) := by
  unfold g_fill_in b_fill_in inT
  have ep : ∀ i : Int, ((rdD (0, 0) P i).1, (rdD (0, 0) P i).2) = pt P i := fun _ => rfl
  have eq : ((q.1, q.2) : Pt) = q := rfl
  simp only [meet, inb_r h.1, inb_r h.2.1, inb_r h.2.2, gT, ep, eq, oriT, bnd_s]
  cases decide (ori (pt P t.1) (pt P t.2.1) q ≥ 0) <;> cases decide (ori (pt P t.2.1) (pt P t.2.2) q ≥ 0) <;> rfl
theorem empty_f (m : Nat) {P : List Pt} {t : Tr} (hp : P.length ≤ 900) (h : inr t.1 P.length ∧ inr t.2.1 P.length ∧ inr t.2.2 P.length) : g_fill_empty (m + 1000) P t = some (empV P t) := by
  unfold g_fill_empty b_fill_empty empV
  refine (loop_anyE (fun i => (P, t, P, (P.length : Int), (i : Int))) P.length (fun i => othB t (i : Int) && inT P t (pt P (i : Int))) (some false) (some true) rfl (fun next => ?_) (fun i hi next => ?_) _ (by omega)).trans ?_
  · dsimp only
    rw [bif_F (by omega)]
  · dsimp only
    have ep : ∀ i : Int, ((rdD (0, 0) P i).1, (rdD (0, 0) P i).2) = pt P i := fun _ => rfl
    simp only [meet, ep]
    rw [bif_T (by omega), gd_t (inb_t ⟨by omega, by omega⟩), show g_fill_in (m + 1000) P (t.1, t.2.1, t.2.2) (pt P (i : Int)) = _ from in_fl m h _, bnd_s, w64_id (x := (i : Int) + 1) (by omega) (by omega)]
    unfold othB
    cases decide ((i : Int) = t.1) <;> cases decide ((i : Int) = t.2.1) <;> cases decide ((i : Int) = t.2.2) <;> rfl
  · cases (List.range P.length).any fun i => othB t (i : Int) && inT P t (pt P (i : Int)) <;> rfl
def okTri (p : Poly) (E : List Pt) (s : Pt) (c : Int) : Option Tr :=
  if (s.1, c) ∈ E ∧ (s.2, c) ∈ E ∧ (triv p.1 s.1 s.2 c).2 = true ∧ (midv p.1 p.2.1 [s.1, s.2, c]).1 = 1 ∧ empV p.1 (triv p.1 s.1 s.2 c).1 = true then some (triv p.1 s.1 s.2 c).1 else none
def rowE (p : Poly) (E : List Pt) (s : Pt) (j : Nat) : List Tr := (List.range j).filterMap fun (j : Nat) => okTri p E s (s.2 + 1 + (j : Int))
def cnt (p : Poly) (s : Pt) : Nat := p.1.length - (s.2.toNat + 1)
def rowF (p : Poly) (E : List Pt) (s : Pt) : List Tr := rowE p E s (cnt p s)
def triL (p : Poly) (E : List Pt) : List Tr := E.flatMap (rowF p E)
def trisv (p : Poly) : List Tr := srtL cf_57 (triL p (edgesv p))
theorem rowE_succ (p : Poly) (E : List Pt) (s : Pt) (j : Nat) : rowE p E s (j + 1) = rowE p E s j ++ (okTri p E s (s.2 + 1 + (j : Int))).toList := by
  unfold rowE
  rw [List.range_succ, List.filterMap_append]
  cases h : okTri p E s (s.2 + 1 + (j : Int)) <;> simp [h]
theorem rowE_len (p : Poly) (E : List Pt) (s : Pt) (j : Nat) : (rowE p E s j).length ≤ j := by
  unfold rowE
  exact Nat.le_trans (List.length_filterMap_le _ _) (by rw [List.length_range]; exact Nat.le_refl _)
theorem flat_len {α β : Type} (f : α → List β) (n : Nat) : ∀ l : List α, (∀ x ∈ l, (f x).length ≤ n) → (l.flatMap f).length ≤ l.length * n
  | [], _ => by simp
  | x :: l, h => by
    rw [List.flatMap_cons, List.length_append, List.length_cons, Nat.add_mul, Nat.one_mul]
    have h1 := h x List.mem_cons_self
    have h2 := flat_len f n l fun y hy => h y (List.mem_cons_of_mem _ hy)
    omega
theorem thirdT (m : Nat) (p l : List Pt) (a b c : Int) (hl : l.length ≤ 350) : g_within_Third (m + 1000) p l a b c = some (midv p l [a, b, c]) := by
  unfold g_within_Third b_within_Third
  rw [show g_within_middle (m + 1000) p l [a, b, c] = _ from middle_f (m + 600) p l [a, b, c] (by simp) (by simp) hl]
  rfl
theorem edgesv_I {p : Poly} (h : Few p) : ∀ s ∈ edgesv p, oks p.1.length s := by
  intro s hs
  rw [edgesv_mem] at hs
  exact (((segsv_I h.sm h.l h.i).out p.1.length (Nat.le_refl _)).resolve_right (by have := h.n; omega)).ok s hs
theorem edgesv_len {p : Poly} (h : Few p) : (edgesv p).length ≤ 696 := by
  have h1 := (((segsv_I h.sm h.l h.i).out p.1.length (Nat.le_refl _)).resolve_right (by have := h.n; omega)).len
  have h2 := h.n
  unfold edgesv
  rw [(srtL_prm _ _).length_eq]
  omega
theorem mkIn (m : Nat) {ρ : Type} {p : Poly} (h : Few p) {D : Mesh} (E : List Pt) (hE : E.length ≤ 700) (A : List Tr) (hA : A.length ≤ 20000) {R S : List Pt} {s : Pt} (hs : oks p.1.length s) {x26 : List Pt} {x27 x28 : Int} {K : Mesh → List Pt → Int → Int → Option ρ} {F : (Poly × Mesh × List (Pt × Bool) × Mesh × Pt × Int × List Pt × Int × Int) → ((Poly × Mesh × List (Pt × Bool) × Mesh × Pt × Int × List Pt × Int × Int) → Option ρ) → Option ρ}
    (hF : ∀ (c : Int) (B : List Tr) next, 0 ≤ c → c < p.1.length → B.length ≤ 30000 → F (p, D, yes E, (R, B, S), s, c, x26, x27, x28) next = next (p, D, yes E, (R, B ++ (okTri p E s c).toList, S), s, c + 1, x26, x27, x28))
    (hK : ∀ (B : List Tr) next, F (p, D, yes E, (R, B, S), s, (p.1.length : Int), x26, x27, x28) next = K (R, B, S) x26 x27 x28) :
    loopN F (m + 1000) (p, D, yes E, (R, A, S), s, s.2 + 1, x26, x27, x28) = K (R, A ++ rowF p E s, S) x26 x27 x28 := by
  obtain ⟨_, h1, h2⟩ := hs
  have hn := h.n
  refine loop_from (fun j => (p, D, yes E, (R, A ++ rowE p E s j, S), s, s.2 + 1 + (j : Int), x26, x27, x28)) (cnt p s) ?_ (fun nx => ?_) (fun j hj nx hnx => ?_) _ (by unfold cnt; omega)
  · show _ = (p, D, yes E, (R, A ++ [], S), s, s.2 + 1 + ((0 : Nat) : Int), x26, x27, x28)
    rw [List.append_nil, show s.2 + 1 + ((0 : Nat) : Int) = s.2 + 1 by omega]
  · rw [show s.2 + 1 + (cnt p s : Int) = (p.1.length : Int) by unfold cnt; omega]
    exact hK _ _
  · have := rowE_len p E s j
    unfold cnt at hj
    rw [hF _ _ _ (by omega) (by omega) (by rw [List.length_append]; omega), ← hnx, rowE_succ, List.append_assoc, show s.2 + 1 + ((j + 1 : Nat) : Int) = s.2 + 1 + (j : Int) + 1 by omega]
end Go.Proofs.YtpkkcjmblocjdaaGreat.Pure
end
/- fill.Make: what it answers. -/
section
set_option linter.unusedVariables false
set_option linter.unusedSimpArgs false
namespace Go.Proofs.YtpkkcjmblocjdaaGreat.Pure
open Go.RowKit Go.Proofs.YtpkkcjmblocjdaaGreat.AM PL

abbrev St9 : Type := Poly × Mesh × List (Pt × Bool) × Mesh × Pt × Int × List Pt × Int × Int
theorem mkBody (m : Nat) {ρ : Type} {p : Poly} (h : Few p) {D : Mesh} (E : List Pt) {R S : List Pt} {s : Pt} (hs : oks p.1.length s) {x26 : List Pt} {x27 x28 : Int} {K : Poly → Mesh → List (Pt × Bool) → Mesh → List Pt → Int → Int → Option ρ} {F : St9 → (St9 → Option ρ) → Option ρ}
    (hF : ∀ (x20 : Poly) (x21 : Mesh) x22 (x23 : Mesh) (x24 : Pt) (x25 : Int) x26 x27 x28 next19, F (x20, x21, x22, x23, x24, x25, x26, x27, x28) next19 =
        bif decide (x25 < (x20.1.length : Int)) then
         meet (α := (((List (Int × Int)) × ((List (Int × Int)) × (List (Int × Int)))) × (((List (Int × Int)) × ((List (Int × (Int × Int))) × (List (Int × Int)))) × ((List ((Int × Int) × Bool)) × (((List (Int × Int)) × ((List (Int × (Int × Int))) × (List (Int × Int)))) × ((Int × Int) × (Int × ((List (Int × Int)) × (Int × Int))))))))) (fun (y29, y30, y31, y32, y33, y34, y35, y36, y37) =>
          next19 ((y29.1, y29.2.1, y29.2.2), (y30.1, y30.2.1, y30.2.2), y31, (y32.1, y32.2.1, y32.2.2), (y33.1, y33.2), w64 (y34 + 1), y35, y36, y37)) fun j38 =>
         meet (α := (((List (Int × Int)) × ((List (Int × Int)) × (List (Int × Int)))) × (((List (Int × Int)) × ((List (Int × (Int × Int))) × (List (Int × Int)))) × ((List ((Int × Int) × Bool)) × (((List (Int × Int)) × ((List (Int × (Int × Int))) × (List (Int × Int)))) × ((Int × Int) × (Int × ((List (Int × Int)) × (Int × (Int × Bool)))))))))) (fun (y39, y40, y41, y42, y43, y44, y45, y46, y47, y48) =>
          bif y48 then
           j38 ((y39.1, y39.2.1, y39.2.2), (y40.1, y40.2.1, y40.2.2), y41, (y42.1, y42.2.1, y42.2.2), (y43.1, y43.2), y44, y45, y46, y47)
          else
           bnd (g_fill_Tri (m + 1000) y39.1 y43.1 y43.2 y44) fun r49 =>
           bnd (g_within_Third (m + 1000) y39.1 y39.2.1 y43.1 y43.2 y44) fun r50 =>
           meet (α := (((List (Int × Int)) × ((List (Int × Int)) × (List (Int × Int)))) × (((List (Int × Int)) × ((List (Int × (Int × Int))) × (List (Int × Int)))) × ((List ((Int × Int) × Bool)) × (((List (Int × Int)) × ((List (Int × (Int × Int))) × (List (Int × Int)))) × ((Int × Int) × (Int × ((Int × (Int × Int)) × ((List (Int × Int)) × (Int × (Int × Bool))))))))))) (fun (y51, y52, y53, y54, y55, y56, y57, y58, y59, y60, y61) =>
            meet (α := (((List (Int × Int)) × ((List (Int × Int)) × (List (Int × Int)))) × (((List (Int × Int)) × ((List (Int × (Int × Int))) × (List (Int × Int)))) × ((List ((Int × Int) × Bool)) × (((List (Int × Int)) × ((List (Int × (Int × Int))) × (List (Int × Int)))) × ((Int × Int) × (Int × ((List (Int × Int)) × (Int × Int))))))))) (fun (y62, y63, y64, y65, y66, y67, y68, y69, y70) =>
             j38 ((y62.1, y62.2.1, y62.2.2), (y63.1, y63.2.1, y63.2.2), y64, (y65.1, y65.2.1, y65.2.2), (y66.1, y66.2), y67, y68, y69, y70)) fun j71 =>
            bif y61 then
             gd (few (y54.2.1.length + 1)) <|
             j71 ((y51.1, y51.2.1, y51.2.2), (y52.1, y52.2.1, y52.2.2), y53, (y54.1, y54.2.1 ++ [(y57.1, y57.2.1, y57.2.2)], y54.2.2), (y55.1, y55.2), y56, y58, y59, y60)
            else
             j71 ((y51.1, y51.2.1, y51.2.2), (y52.1, y52.2.1, y52.2.2), y53, (y54.1, y54.2.1, y54.2.2), (y55.1, y55.2), y56, y58, y59, y60)) fun j72 =>
           bif r49.2 then
            bif decide (r50.1 = 1) then
             bnd (g_fill_empty (m + 1000) y39.1 (r49.1.1, r49.1.2.1, r49.1.2.2)) fun r73 =>
             j72 ((y39.1, y39.2.1, y39.2.2), (y40.1, y40.2.1, y40.2.2), y41, (y42.1, y42.2.1, y42.2.2), (y43.1, y43.2), y44, (r49.1.1, r49.1.2.1, r49.1.2.2), y45, y46, y47, r73)
            else
             j72 ((y39.1, y39.2.1, y39.2.2), (y40.1, y40.2.1, y40.2.2), y41, (y42.1, y42.2.1, y42.2.2), (y43.1, y43.2), y44, (r49.1.1, r49.1.2.1, r49.1.2.2), y45, y46, y47, false)
           else
            j72 ((y39.1, y39.2.1, y39.2.2), (y40.1, y40.2.1, y40.2.2), y41, (y42.1, y42.2.1, y42.2.2), (y43.1, y43.2), y44, (r49.1.1, r49.1.2.1, r49.1.2.2), y45, y46, y47, false)) fun j74 =>
         bif !(toT Bool (lkM (.pair (.int .i64) (.int .i64)) .bool x22 (x24.1, x25))) then
          j74 ((x20.1, x20.2.1, x20.2.2), (x21.1, x21.2.1, x21.2.2), x22, (x23.1, x23.2.1, x23.2.2), (x24.1, x24.2), x25, x26, x27, x28, true)
         else
          j74 ((x20.1, x20.2.1, x20.2.2), (x21.1, x21.2.1, x21.2.2), x22, (x23.1, x23.2.1, x23.2.2), (x24.1, x24.2), x25, x26, x27, x28, !(toT Bool (lkM (.pair (.int .i64) (.int .i64)) .bool x22 (x24.2, x25))))
        else
         K x20 x21 x22 x23 x26 x27 x28) (c : Int) (B : List Tr) (next : St9 → Option ρ) (hc0 : 0 ≤ c) (hc : c < p.1.length) (hB : B.length ≤ 30000) :
    F (p, D, yes E, (R, B, S), s, c, x26, x27, x28) next = next (p, D, yes E, (R, B ++ (okTri p E s c).toList, S), s, c + 1, x26, x27, x28) := by
  have hn := h.n
  have k1 : toT Bool (lkM (.pair (.int .i64) (.int .i64)) .bool (yes E) (s.1, c)) = decide ((s.1, c) ∈ E) := lk_yes E (s.1, c)
  have k2 : toT Bool (lkM (.pair (.int .i64) (.int .i64)) .bool (yes E) (s.2, c)) = decide ((s.2, c) ∈ E) := lk_yes E (s.2, c)
  have et := Tri_f m p.1 s.1 s.2 c (by omega)
  have eh := thirdT m p.1 p.2.1 s.1 s.2 c (by have := h.l; omega)
  have ea : B ++ [] = B := List.append_nil B
  rw [hF, bif_T (by omega)]
  simp only [meet, k1, k2]
  rw [w64_id (x := c + 1) (by omega) (by omega)]
  unfold okTri
  by_cases h1 : (s.1, c) ∈ E
  · rw [bif_nT h1]
    by_cases h2 : (s.2, c) ∈ E
    · rw [decide_eq_true h2]
      simp only [Bool.not_true, cF]
      rw [et, bnd_s, eh, bnd_s]
      by_cases h3 : (triv p.1 s.1 s.2 c).2 = true
      · rw [bif_t h3]
        by_cases h4 : (midv p.1 p.2.1 [s.1, s.2, c]).1 = 1
        · rw [bif_T h4]
          have hr : inr (triv p.1 s.1 s.2 c).1.1 p.1.length ∧ inr (triv p.1 s.1 s.2 c).1.2.1 p.1.length ∧ inr (triv p.1 s.1 s.2 c).1.2.2 p.1.length := by
            have hr0 : inr c p.1.length := ⟨hc0, hc⟩
            unfold triv at h3 ⊢
            rw [if_pos ⟨hs.1, hs.2, hr0⟩] at h3 ⊢
            split at h3
            · cases h3
            · rename_i h0
              rw [if_neg h0]
              have r3 : ∀ x y z : Int, inr x p.1.length → inr y p.1.length → inr z p.1.length → inr (rot3 x y z).1 p.1.length ∧ inr (rot3 x y z).2.1 p.1.length ∧ inr (rot3 x y z).2.2 p.1.length := by
                intro x y z hx hy hz
                unfold rot3
                (repeat' split)
                · exact ⟨hx, hy, hz⟩
                · exact ⟨hy, hz, hx⟩
                · exact ⟨hz, hx, hy⟩
              split
              · exact r3 _ _ _ hs.1 hr0 hs.2
              · exact r3 _ _ _ hs.1 hs.2 hr0
          rw [show g_fill_empty (m + 1000) p.1 ((triv p.1 s.1 s.2 c).1.1, (triv p.1 s.1 s.2 c).1.2.1, (triv p.1 s.1 s.2 c).1.2.2) = _ from empty_f m (by omega) hr, bnd_s]
          by_cases h5 : empV p.1 (triv p.1 s.1 s.2 c).1 = true
          · rw [if_pos ⟨h1, h2, h3, h4, h5⟩, bif_t h5, gd_t (few_t (by omega))]
            rfl
          · rw [if_neg (fun x => h5 x.2.2.2.2), bif_f (by simpa using h5)]
            show _ = next (p, D, yes E, (R, B ++ [], S), s, c + 1, x26, x27, x28)
            rw [ea]
        · rw [bif_F h4, if_neg (fun x => h4 x.2.2.2.1)]
          show _ = next (p, D, yes E, (R, B ++ [], S), s, c + 1, x26, x27, x28)
          rw [ea]
      · rw [bif_f (by simpa using h3), if_neg (fun x => h3 x.2.2.1)]
        show _ = next (p, D, yes E, (R, B ++ [], S), s, c + 1, x26, x27, x28)
        rw [ea]
    · rw [decide_eq_false h2, if_neg (fun x => h2 x.2.1)]
      simp only [Bool.not_false, cT]
      show _ = next (p, D, yes E, (R, B ++ [], S), s, c + 1, x26, x27, x28)
      rw [ea]
  · rw [bif_nF h1, if_neg (fun x => h1 x.1), cT]
    show _ = next (p, D, yes E, (R, B ++ [], S), s, c + 1, x26, x27, x28)
    rw [ea]
theorem mkAll (m : Nat) {ρ : Type} {p : Poly} (h : Few p) {D : Mesh} (E : List Pt) (hE : E.length ≤ 700) (A : List Tr) (hA : A.length ≤ 20000) {R S : List Pt} {s : Pt} (hs : oks p.1.length s) {x26 : List Pt} {x27 x28 : Int} {K : Poly → Mesh → List (Pt × Bool) → Mesh → List Pt → Int → Int → Option ρ} {F : St9 → (St9 → Option ρ) → Option ρ}
    (hF : ∀ (x20 : Poly) (x21 : Mesh) x22 (x23 : Mesh) (x24 : Pt) (x25 : Int) x26 x27 x28 next19, F (x20, x21, x22, x23, x24, x25, x26, x27, x28) next19 =
        bif decide (x25 < (x20.1.length : Int)) then
         meet (α := (((List (Int × Int)) × ((List (Int × Int)) × (List (Int × Int)))) × (((List (Int × Int)) × ((List (Int × (Int × Int))) × (List (Int × Int)))) × ((List ((Int × Int) × Bool)) × (((List (Int × Int)) × ((List (Int × (Int × Int))) × (List (Int × Int)))) × ((Int × Int) × (Int × ((List (Int × Int)) × (Int × Int))))))))) (fun (y29, y30, y31, y32, y33, y34, y35, y36, y37) =>
          next19 ((y29.1, y29.2.1, y29.2.2), (y30.1, y30.2.1, y30.2.2), y31, (y32.1, y32.2.1, y32.2.2), (y33.1, y33.2), w64 (y34 + 1), y35, y36, y37)) fun j38 =>
         meet (α := (((List (Int × Int)) × ((List (Int × Int)) × (List (Int × Int)))) × (((List (Int × Int)) × ((List (Int × (Int × Int))) × (List (Int × Int)))) × ((List ((Int × Int) × Bool)) × (((List (Int × Int)) × ((List (Int × (Int × Int))) × (List (Int × Int)))) × ((Int × Int) × (Int × ((List (Int × Int)) × (Int × (Int × Bool)))))))))) (fun (y39, y40, y41, y42, y43, y44, y45, y46, y47, y48) =>
          bif y48 then
           j38 ((y39.1, y39.2.1, y39.2.2), (y40.1, y40.2.1, y40.2.2), y41, (y42.1, y42.2.1, y42.2.2), (y43.1, y43.2), y44, y45, y46, y47)
          else
           bnd (g_fill_Tri (m + 1000) y39.1 y43.1 y43.2 y44) fun r49 =>
           bnd (g_within_Third (m + 1000) y39.1 y39.2.1 y43.1 y43.2 y44) fun r50 =>
           meet (α := (((List (Int × Int)) × ((List (Int × Int)) × (List (Int × Int)))) × (((List (Int × Int)) × ((List (Int × (Int × Int))) × (List (Int × Int)))) × ((List ((Int × Int) × Bool)) × (((List (Int × Int)) × ((List (Int × (Int × Int))) × (List (Int × Int)))) × ((Int × Int) × (Int × ((Int × (Int × Int)) × ((List (Int × Int)) × (Int × (Int × Bool))))))))))) (fun (y51, y52, y53, y54, y55, y56, y57, y58, y59, y60, y61) =>
            meet (α := (((List (Int × Int)) × ((List (Int × Int)) × (List (Int × Int)))) × (((List (Int × Int)) × ((List (Int × (Int × Int))) × (List (Int × Int)))) × ((List ((Int × Int) × Bool)) × (((List (Int × Int)) × ((List (Int × (Int × Int))) × (List (Int × Int)))) × ((Int × Int) × (Int × ((List (Int × Int)) × (Int × Int))))))))) (fun (y62, y63, y64, y65, y66, y67, y68, y69, y70) =>
             j38 ((y62.1, y62.2.1, y62.2.2), (y63.1, y63.2.1, y63.2.2), y64, (y65.1, y65.2.1, y65.2.2), (y66.1, y66.2), y67, y68, y69, y70)) fun j71 =>
            bif y61 then
             gd (few (y54.2.1.length + 1)) <|
             j71 ((y51.1, y51.2.1, y51.2.2), (y52.1, y52.2.1, y52.2.2), y53, (y54.1, y54.2.1 ++ [(y57.1, y57.2.1, y57.2.2)], y54.2.2), (y55.1, y55.2), y56, y58, y59, y60)
            else
             j71 ((y51.1, y51.2.1, y51.2.2), (y52.1, y52.2.1, y52.2.2), y53, (y54.1, y54.2.1, y54.2.2), (y55.1, y55.2), y56, y58, y59, y60)) fun j72 =>
           bif r49.2 then
            bif decide (r50.1 = 1) then
             bnd (g_fill_empty (m + 1000) y39.1 (r49.1.1, r49.1.2.1, r49.1.2.2)) fun r73 =>
             j72 ((y39.1, y39.2.1, y39.2.2), (y40.1, y40.2.1, y40.2.2), y41, (y42.1, y42.2.1, y42.2.2), (y43.1, y43.2), y44, (r49.1.1, r49.1.2.1, r49.1.2.2), y45, y46, y47, r73)
            else
             j72 ((y39.1, y39.2.1, y39.2.2), (y40.1, y40.2.1, y40.2.2), y41, (y42.1, y42.2.1, y42.2.2), (y43.1, y43.2), y44, (r49.1.1, r49.1.2.1, r49.1.2.2), y45, y46, y47, false)
           else
            j72 ((y39.1, y39.2.1, y39.2.2), (y40.1, y40.2.1, y40.2.2), y41, (y42.1, y42.2.1, y42.2.2), (y43.1, y43.2), y44, (r49.1.1, r49.1.2.1, r49.1.2.2), y45, y46, y47, false)) fun j74 =>
         bif !(toT Bool (lkM (.pair (.int .i64) (.int .i64)) .bool x22 (x24.1, x25))) then
          j74 ((x20.1, x20.2.1, x20.2.2), (x21.1, x21.2.1, x21.2.2), x22, (x23.1, x23.2.1, x23.2.2), (x24.1, x24.2), x25, x26, x27, x28, true)
         else
          j74 ((x20.1, x20.2.1, x20.2.2), (x21.1, x21.2.1, x21.2.2), x22, (x23.1, x23.2.1, x23.2.2), (x24.1, x24.2), x25, x26, x27, x28, !(toT Bool (lkM (.pair (.int .i64) (.int .i64)) .bool x22 (x24.2, x25))))
        else
         K x20 x21 x22 x23 x26 x27 x28) :
    loopN F (m + 1000) (p, D, yes E, (R, A, S), s, s.2 + 1, x26, x27, x28) = K p D (yes E) (R, A ++ rowF p E s, S) x26 x27 x28 :=
  mkIn m h E hE A hA hs (K := fun a b c d => K p D (yes E) a b c d) (mkBody m h E hs hF) (fun B nx => by
    rw [hF]
    exact bif_F (by show ¬ (p.1.length : Int) < (p.1.length : Int); omega))
abbrev St7 : Type := Poly × Mesh × List (Pt × Bool) × Mesh × List Pt × Int × Int
theorem mkOut (m : Nat) {ρ : Type} {fin : List Pt → List Tr → List Pt → Option ρ} {p : Poly} (h : Few p) {D : Mesh} {R S : List Pt} (E : List Pt) (hE : E.length ≤ 700) (ho : ∀ s ∈ E, oks p.1.length s) {G : (St7 → Option ρ) → Poly → Mesh → List (Pt × Bool) → Mesh → Pt → Int → List Pt → Int → Int → Option ρ} {F : St7 → (St7 → Option ρ) → Option ρ}
    (hG : ∀ (A : List Tr) (s : Pt) (i : Int) next, A.length ≤ 20000 → oks p.1.length s → G next p D (yes E) (R, A, S) s (s.2 + 1) E (E.length : Int) i = next (p, D, yes E, (R, A ++ rowF p E s, S), E, (E.length : Int), w64 (i + 1)))
    (hF : ∀ (x12 : Poly) (x13 : Mesh) x14 (x15 : Mesh) (x16 : List Pt) (x17 x18 : Int) next11, F (x12, x13, x14, x15, x16, x17, x18) next11 =
      bif decide (x18 < x17) then
       gd (inb x18 x16.length) <|
       G next11 x12 x13 x14 x15 (rdD (0, 0) x16 x18) (w64 ((rdD (0, 0) x16 x18).2 + 1)) x16 x17 x18
      else
       gd (few x15.2.1.length) <|
       fin x15.1 (srtL cf_57 x15.2.1) x15.2.2) :
    loopN F (m + 1000) (p, D, yes E, (R, [], S), E, (E.length : Int), 0) = fin R (srtL cf_57 (triL p E)) S := by
  have hlen : ∀ i, i ≤ E.length → ((E.take i).flatMap (rowF p E)).length ≤ 20000 := by
    intro i hi
    have h1 := flat_len (rowF p E) 24 (E.take i) (fun s _ => Nat.le_trans (rowE_len p E s (cnt p s)) (by have := h.n; unfold cnt; omega))
    rw [List.length_take] at h1
    omega
  have ht : (triL p E).length ≤ 20000 := by
    have := hlen E.length (Nat.le_refl _)
    rwa [List.take_length] at this
  refine loop_from (fun i => (p, D, yes E, (R, (E.take i).flatMap (rowF p E), S), E, (E.length : Int), (i : Int))) E.length rfl (fun nx => ?_) (fun i hi nx hnx => ?_) _ (by omega)
  · rw [hF, bif_F (by omega), List.take_length, gd_t (few_t (by show (triL p E).length < _; omega))]
    rfl
  · have hs := ho _ (List.getElem_mem hi)
    obtain ⟨_, a1, a2⟩ := hs
    have hn := h.n
    rw [hF, bif_T (by omega), gd_t (inb_t ⟨by omega, by omega⟩), rd_get _ _ i hi, w64_id (x := E[i].2 + 1) (by omega) (by omega), hG _ _ _ _ (hlen i (by omega)) (ho _ (List.getElem_mem hi)), w64_id (x := (i : Int) + 1) (by omega) (by omega), ← hnx, flat_snoc _ _ _ hi]
    rfl
theorem Make_f (m : Nat) {p : Poly} (h : Few p) (hF : good0 p = true → Fine p ∧ p.1.length ≠ 0) : g_fill_Make (m + 1000) p = some (if good0 p = true then ((p.1, trisv p, segsv p), 0) else (([], [], []), 2)) := by
  unfold g_fill_Make b_fill_Make
  rw [show g_fill_Edges (m + 1000) (p.1, p.2.1, p.2.2) = _ from Edges_f m h, bnd_s]
  cases hg : good0 p with
  | false => rfl
  | true =>
    obtain ⟨hf, hne⟩ := hF hg
    rw [if_pos rfl, if_pos rfl, bif_nT rfl]
    have hlen := edgesv_len h
    have hnd : (edgesv p).Nodup := ordS.nodup (edgesv_srt hf)
    have hok := edgesv_I h
    have ht : trisv p = srtL cf_57 (triL p (edgesv p)) := rfl
    rw [ht]
    clear ht
    dsimp only
    generalize edgesv p = E at *
    have hn := h.n; have hL := h.l; have hI := h.i
    refine loop_from (fun i => (p, ([], [], []), E, yes (E.take i), E, (E.length : Int), (i : Int))) E.length rfl (fun nx => ?_) (fun i hi nx hnx => ?_) _ (by omega)
    · dsimp only
      rw [bif_F (by omega), gd_t (decide_eq_true (by omega)), gd_t (few_t (by omega)), show g_fill_segs (m + 1000) (p.1, p.2.1, p.2.2) = _ from segs_fl m p (by omega) (by omega), bnd_s, List.take_length]
      refine Eq.trans (mkOut m h (ρ := Mesh × Int) (D := ([], [], [])) (R := p.1) (S := segsv p) (fin := fun R T S => some ((R, T, S), 0)) E (by omega) hok (G := fun next11 x12 x13 x14 x15 s c x16 x17 x18 =>
               loopN (α := (((List (Int × Int)) × ((List (Int × Int)) × (List (Int × Int)))) × (((List (Int × Int)) × ((List (Int × (Int × Int))) × (List (Int × Int)))) × ((List ((Int × Int) × Bool)) × (((List (Int × Int)) × ((List (Int × (Int × Int))) × (List (Int × Int)))) × ((Int × Int) × (Int × ((List (Int × Int)) × (Int × Int))))))))) (fun (x20, x21, x22, x23, x24, x25, x26, x27, x28) next19 =>
                bif decide (x25 < (x20.1.length : Int)) then
                 meet (α := (((List (Int × Int)) × ((List (Int × Int)) × (List (Int × Int)))) × (((List (Int × Int)) × ((List (Int × (Int × Int))) × (List (Int × Int)))) × ((List ((Int × Int) × Bool)) × (((List (Int × Int)) × ((List (Int × (Int × Int))) × (List (Int × Int)))) × ((Int × Int) × (Int × ((List (Int × Int)) × (Int × Int))))))))) (fun (y29, y30, y31, y32, y33, y34, y35, y36, y37) =>
                  next19 ((y29.1, y29.2.1, y29.2.2), (y30.1, y30.2.1, y30.2.2), y31, (y32.1, y32.2.1, y32.2.2), (y33.1, y33.2), w64 (y34 + 1), y35, y36, y37)) fun j38 =>
                 meet (α := (((List (Int × Int)) × ((List (Int × Int)) × (List (Int × Int)))) × (((List (Int × Int)) × ((List (Int × (Int × Int))) × (List (Int × Int)))) × ((List ((Int × Int) × Bool)) × (((List (Int × Int)) × ((List (Int × (Int × Int))) × (List (Int × Int)))) × ((Int × Int) × (Int × ((List (Int × Int)) × (Int × (Int × Bool)))))))))) (fun (y39, y40, y41, y42, y43, y44, y45, y46, y47, y48) =>
                  bif y48 then
                   j38 ((y39.1, y39.2.1, y39.2.2), (y40.1, y40.2.1, y40.2.2), y41, (y42.1, y42.2.1, y42.2.2), (y43.1, y43.2), y44, y45, y46, y47)
                  else
                   bnd (g_fill_Tri (m + 1000) y39.1 y43.1 y43.2 y44) fun r49 =>
                   bnd (g_within_Third (m + 1000) y39.1 y39.2.1 y43.1 y43.2 y44) fun r50 =>
                   meet (α := (((List (Int × Int)) × ((List (Int × Int)) × (List (Int × Int)))) × (((List (Int × Int)) × ((List (Int × (Int × Int))) × (List (Int × Int)))) × ((List ((Int × Int) × Bool)) × (((List (Int × Int)) × ((List (Int × (Int × Int))) × (List (Int × Int)))) × ((Int × Int) × (Int × ((Int × (Int × Int)) × ((List (Int × Int)) × (Int × (Int × Bool))))))))))) (fun (y51, y52, y53, y54, y55, y56, y57, y58, y59, y60, y61) =>
                    meet (α := (((List (Int × Int)) × ((List (Int × Int)) × (List (Int × Int)))) × (((List (Int × Int)) × ((List (Int × (Int × Int))) × (List (Int × Int)))) × ((List ((Int × Int) × Bool)) × (((List (Int × Int)) × ((List (Int × (Int × Int))) × (List (Int × Int)))) × ((Int × Int) × (Int × ((List (Int × Int)) × (Int × Int))))))))) (fun (y62, y63, y64, y65, y66, y67, y68, y69, y70) =>
                     j38 ((y62.1, y62.2.1, y62.2.2), (y63.1, y63.2.1, y63.2.2), y64, (y65.1, y65.2.1, y65.2.2), (y66.1, y66.2), y67, y68, y69, y70)) fun j71 =>
                    bif y61 then
                     gd (few (y54.2.1.length + 1)) <|
                     j71 ((y51.1, y51.2.1, y51.2.2), (y52.1, y52.2.1, y52.2.2), y53, (y54.1, y54.2.1 ++ [(y57.1, y57.2.1, y57.2.2)], y54.2.2), (y55.1, y55.2), y56, y58, y59, y60)
                    else
                     j71 ((y51.1, y51.2.1, y51.2.2), (y52.1, y52.2.1, y52.2.2), y53, (y54.1, y54.2.1, y54.2.2), (y55.1, y55.2), y56, y58, y59, y60)) fun j72 =>
                   bif r49.2 then
                    bif decide (r50.1 = 1) then
                     bnd (g_fill_empty (m + 1000) y39.1 (r49.1.1, r49.1.2.1, r49.1.2.2)) fun r73 =>
                     j72 ((y39.1, y39.2.1, y39.2.2), (y40.1, y40.2.1, y40.2.2), y41, (y42.1, y42.2.1, y42.2.2), (y43.1, y43.2), y44, (r49.1.1, r49.1.2.1, r49.1.2.2), y45, y46, y47, r73)
                    else
                     j72 ((y39.1, y39.2.1, y39.2.2), (y40.1, y40.2.1, y40.2.2), y41, (y42.1, y42.2.1, y42.2.2), (y43.1, y43.2), y44, (r49.1.1, r49.1.2.1, r49.1.2.2), y45, y46, y47, false)
                   else
                    j72 ((y39.1, y39.2.1, y39.2.2), (y40.1, y40.2.1, y40.2.2), y41, (y42.1, y42.2.1, y42.2.2), (y43.1, y43.2), y44, (r49.1.1, r49.1.2.1, r49.1.2.2), y45, y46, y47, false)) fun j74 =>
                 bif !(toT Bool (lkM (.pair (.int .i64) (.int .i64)) .bool x22 (x24.1, x25))) then
                  j74 ((x20.1, x20.2.1, x20.2.2), (x21.1, x21.2.1, x21.2.2), x22, (x23.1, x23.2.1, x23.2.2), (x24.1, x24.2), x25, x26, x27, x28, true)
                 else
                  j74 ((x20.1, x20.2.1, x20.2.2), (x21.1, x21.2.1, x21.2.2), x22, (x23.1, x23.2.1, x23.2.2), (x24.1, x24.2), x25, x26, x27, x28, !(toT Bool (lkM (.pair (.int .i64) (.int .i64)) .bool x22 (x24.2, x25))))
                else
                 next11 ((x20.1, x20.2.1, x20.2.2), (x21.1, x21.2.1, x21.2.2), x22, (x23.1, x23.2.1, x23.2.2), x26, x27, w64 (x28 + 1))) (m + 1000) (x12, x13, x14, x15, s, c, x16, x17, x18)) ?hG (fun _ _ _ _ _ _ _ _ => rfl)) rfl
      intro A s i next hA hs
      exact mkAll m h E (by omega) A hA hs (K := fun x20 x21 x22 x23 x26 x27 x28 => next (x20, x21, x22, x23, x26, x27, w64 (x28 + 1))) (fun _ _ _ _ _ _ _ _ _ _ => rfl)
    · dsimp only
      have hno : E[i] ∉ E.take i := by
        intro hm
        obtain ⟨k, hk, e⟩ := List.getElem_of_mem hm
        rw [List.length_take] at hk
        rw [List.getElem_take] at e
        exact List.pairwise_iff_getElem.1 (List.nodup_iff_pairwise_ne.1 hnd) k i (by omega) hi (by omega) e
      have h1 : hsM (.pair (.int .i64) (.int .i64)) .bool (yes (E.take i)) (E[i].1, E[i].2) = false := (hs_yes (E.take i) E[i]).trans (decide_eq_false hno)
      have h2 : adM (.pair (.int .i64) (.int .i64)) .bool (yes (E.take i)) (E[i].1, E[i].2) true = yes (E.take (i + 1)) := (ad_yes (E.take i) E[i]).trans (by rw [take_snoc E i hi])
      rw [bif_T (by omega), gd_t (inb_t ⟨by omega, by omega⟩), rd_get _ _ i hi, h1, h2, w64_id (x := (i : Int) + 1) (by omega) (by omega), ← hnx]
      rfl
theorem MakeM_f (m : Nat) {p : Poly} (h : Few p) (hF : good0 p = true → Fine p ∧ p.1.length ≠ 0) : g_mix_fill_Make (m + 1000) p = some (if good0 p = true then (p.1, ([], trisv p, segsv p), 0) else ([], ([], [], []), 2)) := by
  unfold g_mix_fill_Make b_mix_fill_Make
  rw [show g_fill_Edges (m + 1000) (p.1, p.2.1, p.2.2) = _ from Edges_f m h, bnd_s]
  cases hg : good0 p with
  | false => rfl
  | true =>
    obtain ⟨hf, hne⟩ := hF hg
    rw [if_pos rfl, if_pos rfl, bif_nT rfl]
    have hlen := edgesv_len h
    have hnd : (edgesv p).Nodup := ordS.nodup (edgesv_srt hf)
    have hok := edgesv_I h
    have ht : trisv p = srtL cf_57 (triL p (edgesv p)) := rfl
    rw [ht]
    clear ht
    dsimp only
    generalize edgesv p = E at *
    have hn := h.n; have hL := h.l; have hI := h.i
    refine loop_from (fun i => (p, ([], [], []), E, yes (E.take i), E, (E.length : Int), (i : Int))) E.length rfl (fun nx => ?_) (fun i hi nx hnx => ?_) _ (by omega)
    · dsimp only
      rw [bif_F (by omega), gd_t (decide_eq_true (by omega)), gd_t (few_t (by omega)), show g_fill_segs (m + 1000) (p.1, p.2.1, p.2.2) = _ from segs_fl m p (by omega) (by omega), bnd_s, List.take_length]
      refine Eq.trans (mkOut m h (ρ := List Pt × Mesh × Int) (D := ([], [], [])) (R := p.1) (S := segsv p) (fin := fun R T S => some (R, ([], T, S), 0)) E (by omega) hok (G := fun next11 x12 x13 x14 x15 s c x16 x17 x18 =>
               loopN (α := (((List (Int × Int)) × ((List (Int × Int)) × (List (Int × Int)))) × (((List (Int × Int)) × ((List (Int × (Int × Int))) × (List (Int × Int)))) × ((List ((Int × Int) × Bool)) × (((List (Int × Int)) × ((List (Int × (Int × Int))) × (List (Int × Int)))) × ((Int × Int) × (Int × ((List (Int × Int)) × (Int × Int))))))))) (fun (x20, x21, x22, x23, x24, x25, x26, x27, x28) next19 =>
                bif decide (x25 < (x20.1.length : Int)) then
                 meet (α := (((List (Int × Int)) × ((List (Int × Int)) × (List (Int × Int)))) × (((List (Int × Int)) × ((List (Int × (Int × Int))) × (List (Int × Int)))) × ((List ((Int × Int) × Bool)) × (((List (Int × Int)) × ((List (Int × (Int × Int))) × (List (Int × Int)))) × ((Int × Int) × (Int × ((List (Int × Int)) × (Int × Int))))))))) (fun (y29, y30, y31, y32, y33, y34, y35, y36, y37) =>
                  next19 ((y29.1, y29.2.1, y29.2.2), (y30.1, y30.2.1, y30.2.2), y31, (y32.1, y32.2.1, y32.2.2), (y33.1, y33.2), w64 (y34 + 1), y35, y36, y37)) fun j38 =>
                 meet (α := (((List (Int × Int)) × ((List (Int × Int)) × (List (Int × Int)))) × (((List (Int × Int)) × ((List (Int × (Int × Int))) × (List (Int × Int)))) × ((List ((Int × Int) × Bool)) × (((List (Int × Int)) × ((List (Int × (Int × Int))) × (List (Int × Int)))) × ((Int × Int) × (Int × ((List (Int × Int)) × (Int × (Int × Bool)))))))))) (fun (y39, y40, y41, y42, y43, y44, y45, y46, y47, y48) =>
                  bif y48 then
                   j38 ((y39.1, y39.2.1, y39.2.2), (y40.1, y40.2.1, y40.2.2), y41, (y42.1, y42.2.1, y42.2.2), (y43.1, y43.2), y44, y45, y46, y47)
                  else
                   bnd (g_fill_Tri (m + 1000) y39.1 y43.1 y43.2 y44) fun r49 =>
                   bnd (g_within_Third (m + 1000) y39.1 y39.2.1 y43.1 y43.2 y44) fun r50 =>
                   meet (α := (((List (Int × Int)) × ((List (Int × Int)) × (List (Int × Int)))) × (((List (Int × Int)) × ((List (Int × (Int × Int))) × (List (Int × Int)))) × ((List ((Int × Int) × Bool)) × (((List (Int × Int)) × ((List (Int × (Int × Int))) × (List (Int × Int)))) × ((Int × Int) × (Int × ((Int × (Int × Int)) × ((List (Int × Int)) × (Int × (Int × Bool))))))))))) (fun (y51, y52, y53, y54, y55, y56, y57, y58, y59, y60, y61) =>
                    meet (α := (((List (Int × Int)) × ((List (Int × Int)) × (List (Int × Int)))) × (((List (Int × Int)) × ((List (Int × (Int × Int))) × (List (Int × Int)))) × ((List ((Int × Int) × Bool)) × (((List (Int × Int)) × ((List (Int × (Int × Int))) × (List (Int × Int)))) × ((Int × Int) × (Int × ((List (Int × Int)) × (Int × Int))))))))) (fun (y62, y63, y64, y65, y66, y67, y68, y69, y70) =>
                     j38 ((y62.1, y62.2.1, y62.2.2), (y63.1, y63.2.1, y63.2.2), y64, (y65.1, y65.2.1, y65.2.2), (y66.1, y66.2), y67, y68, y69, y70)) fun j71 =>
                    bif y61 then
                     gd (few (y54.2.1.length + 1)) <|
                     j71 ((y51.1, y51.2.1, y51.2.2), (y52.1, y52.2.1, y52.2.2), y53, (y54.1, y54.2.1 ++ [(y57.1, y57.2.1, y57.2.2)], y54.2.2), (y55.1, y55.2), y56, y58, y59, y60)
                    else
                     j71 ((y51.1, y51.2.1, y51.2.2), (y52.1, y52.2.1, y52.2.2), y53, (y54.1, y54.2.1, y54.2.2), (y55.1, y55.2), y56, y58, y59, y60)) fun j72 =>
                   bif r49.2 then
                    bif decide (r50.1 = 1) then
                     bnd (g_fill_empty (m + 1000) y39.1 (r49.1.1, r49.1.2.1, r49.1.2.2)) fun r73 =>
                     j72 ((y39.1, y39.2.1, y39.2.2), (y40.1, y40.2.1, y40.2.2), y41, (y42.1, y42.2.1, y42.2.2), (y43.1, y43.2), y44, (r49.1.1, r49.1.2.1, r49.1.2.2), y45, y46, y47, r73)
                    else
                     j72 ((y39.1, y39.2.1, y39.2.2), (y40.1, y40.2.1, y40.2.2), y41, (y42.1, y42.2.1, y42.2.2), (y43.1, y43.2), y44, (r49.1.1, r49.1.2.1, r49.1.2.2), y45, y46, y47, false)
                   else
                    j72 ((y39.1, y39.2.1, y39.2.2), (y40.1, y40.2.1, y40.2.2), y41, (y42.1, y42.2.1, y42.2.2), (y43.1, y43.2), y44, (r49.1.1, r49.1.2.1, r49.1.2.2), y45, y46, y47, false)) fun j74 =>
                 bif !(toT Bool (lkM (.pair (.int .i64) (.int .i64)) .bool x22 (x24.1, x25))) then
                  j74 ((x20.1, x20.2.1, x20.2.2), (x21.1, x21.2.1, x21.2.2), x22, (x23.1, x23.2.1, x23.2.2), (x24.1, x24.2), x25, x26, x27, x28, true)
                 else
                  j74 ((x20.1, x20.2.1, x20.2.2), (x21.1, x21.2.1, x21.2.2), x22, (x23.1, x23.2.1, x23.2.2), (x24.1, x24.2), x25, x26, x27, x28, !(toT Bool (lkM (.pair (.int .i64) (.int .i64)) .bool x22 (x24.2, x25))))
                else
                 next11 ((x20.1, x20.2.1, x20.2.2), (x21.1, x21.2.1, x21.2.2), x22, (x23.1, x23.2.1, x23.2.2), x26, x27, w64 (x28 + 1))) (m + 1000) (x12, x13, x14, x15, s, c, x16, x17, x18)) ?hG (fun _ _ _ _ _ _ _ _ => rfl)) rfl
      intro A s i next hA hs
      exact mkAll m h E (by omega) A hA hs (K := fun x20 x21 x22 x23 x26 x27 x28 => next (x20, x21, x22, x23, x26, x27, w64 (x28 + 1))) (fun _ _ _ _ _ _ _ _ _ _ => rfl)
    · dsimp only
      have hno : E[i] ∉ E.take i := by
        intro hm
        obtain ⟨k, hk, e⟩ := List.getElem_of_mem hm
        rw [List.length_take] at hk
        rw [List.getElem_take] at e
        exact List.pairwise_iff_getElem.1 (List.nodup_iff_pairwise_ne.1 hnd) k i (by omega) hi (by omega) e
      have h1 : hsM (.pair (.int .i64) (.int .i64)) .bool (yes (E.take i)) (E[i].1, E[i].2) = false := (hs_yes (E.take i) E[i]).trans (decide_eq_false hno)
      have h2 : adM (.pair (.int .i64) (.int .i64)) .bool (yes (E.take i)) (E[i].1, E[i].2) true = yes (E.take (i + 1)) := (ad_yes (E.take i) E[i]).trans (by rw [take_snoc E i hi])
      rw [bif_T (by omega), gd_t (inb_t ⟨by omega, by omega⟩), rd_get _ _ i hi, h1, h2, w64_id (x := (i : Int) + 1) (by omega) (by omega), ← hnx]
      rfl
end Go.Proofs.YtpkkcjmblocjdaaGreat.Pure
end
/- The chapter's example. -/
section
set_option linter.unusedVariables false
set_option linter.unusedSimpArgs false
namespace Go.Proofs.YtpkkcjmblocjdaaGreat.Pure
open Go.RowKit Go.Proofs.YtpkkcjmblocjdaaGreat.AM PL

theorem good_fine {p : Poly} (h : Sm p) (hg : good0 p = true) : Fine p ∧ p.1.length ≠ 0 := by
  have R := good0_right h hg
  refine ⟨R.fine, fun e => R.n6 ?_⟩
  cases hL : p.2.1 with
  | nil => rfl
  | cons s l =>
    have := (R.fine.okL s (by rw [hL]; exact List.mem_cons_self)).1.1
    unfold inr at this
    omega
theorem Make_ok (m : Nat) {p : Poly} (h : Few p) : g_fill_Make (m + 1000) p = some (if good0 p = true then ((p.1, trisv p, segsv p), 0) else (([], [], []), 2)) := Make_f m h (good_fine h.sm)
theorem sameT_f (m : Nat) (l : List Tr) (hl : l.length ≤ 900) : g_parquetref12_SameTris (m + 1000) l l = some true := by
  unfold g_parquetref12_SameTris
  rw [bif_nT rfl]
  refine loop_from (fun i => (l, l, (i : Int))) l.length rfl (fun next => ?_) (fun i hi next hn => ?_) _ (by omega)
  · dsimp only
    rw [bif_F (by omega)]
  · dsimp only
    have hin : inb (i : Int) l.length = true := inb_t ⟨by omega, by omega⟩
    simp only [hin, gT]
    rw [bif_T (by omega), w64_id (x := (i : Int) + 1) (by omega) (by omega)]
    simp only [decide_true, Bool.and_self, Bool.not_true, cF]
    exact hn
def sq0 : Poly := ([(0, 0), (4, 0), (4, 4), (0, 4)], [(0, 1), (1, 2), (2, 3), (3, 0)], [])
theorem sq0_sm : Sm sq0 := ⟨by decide +kernel, by decide, by decide, by decide⟩
theorem sq0_few : Few sq0 := ⟨sq0_sm, by decide, by decide, by decide⟩
theorem sq0_good : good0 sq0 = true := by decide +kernel
theorem sq0_fine : Fine sq0 := (good_fine sq0_sm sq0_good).1
def sqE : List Pt := [(0, 1), (0, 2), (0, 3), (1, 2), (2, 3)]
def sqS : List Pt := [(0, 1), (0, 3), (1, 2), (2, 3)]
def sqT : List Tr := [(0, 1, 2), (0, 2, 3)]
theorem sq0_segs : segsv sq0 = sqS := by
  refine ordS.ext (ordS.srt cf49 (by decide)) (by decide) fun s => ?_
  refine ((srtL_prm cf_49 ((sgs sq0).map up)).mem_iff).trans ?_
  show s ∈ [(0, 1), (1, 2), (2, 3), (0, 3)] ↔ s ∈ [(0, 1), (0, 3), (1, 2), (2, 3)]
  simp only [List.mem_cons, List.not_mem_nil, or_false]
  constructor <;> (rintro (h | h | h | h) <;> simp [h])
theorem sq0_edg : edg sq0 = sqS ++ [(0, 2)] := by
  unfold edg
  rw [sq0_segs]
  decide +kernel
theorem sq0_edges : edgesv sq0 = sqE := by
  refine ordS.ext (edgesv_srt sq0_fine) (by decide) fun s => ?_
  rw [edgesv_mem, sq0_edg]
  show s ∈ [(0, 1), (0, 3), (1, 2), (2, 3), (0, 2)] ↔ s ∈ [(0, 1), (0, 2), (0, 3), (1, 2), (2, 3)]
  simp only [List.mem_cons, List.not_mem_nil, or_false]
  constructor <;> (rintro (h | h | h | h | h) <;> simp [h])
theorem sq0_tris : trisv sq0 = sqT := by
  have e : triL sq0 sqE = sqT := by decide +kernel
  unfold trisv
  rw [sq0_edges, e]
  exact ordT.ext (ordT.srt cf57 (by decide)) (by decide) fun s => (srtL_prm cf_57 sqT).mem_iff
theorem no_few : Few ([], [], []) := ⟨⟨by decide +kernel, by decide, by decide, by decide⟩, by decide, by decide, by decide⟩
theorem no_good : good0 ([], [], []) = false := by decide +kernel
theorem known_f (m : Nat) : g_parquetlaw12_known (m + 1000) = some true := by
  unfold g_parquetlaw12_known b_parquetlaw12_known
  have h1 := Edges_f m sq0_few
  rw [if_pos sq0_good, sq0_edges] at h1
  have h2 := Make_ok m sq0_few
  rw [if_pos sq0_good, sq0_tris, sq0_segs] at h2
  have h3 := Make_ok m no_few
  rw [no_good, if_neg (by decide)] at h3
  have h4 : chkv (sq0.1, sqT, sqS) = 0 := by decide +kernel
  have h5 := fCheck_f m (sq0.1, sqT, sqS) (by decide) (by decide) (by decide)
  rw [h4] at h5
  rw [show g_fill_Edges (m + 1000) ([(0, 0), (4, 0), (4, 4), (0, 4)], [(0, 1), (1, 2), (2, 3), (3, 0)], []) = _ from h1, bnd_s, show g_fill_Make (m + 1000) ([(0, 0), (4, 0), (4, 4), (0, 4)], [(0, 1), (1, 2), (2, 3), (3, 0)], []) = _ from h2, bnd_s, h3, bnd_s]
  simp only [meet]
  rw [show g_parquetref05_SameSegs (m + 1000) sqE [(0, 1), (0, 2), (0, 3), (1, 2), (2, 3)] = _ from sameS_f m sqE (by decide), bnd_s, cT, bif_T trivial, show g_parquetref12_SameTris (m + 1000) sqT [(0, 1, 2), (0, 2, 3)] = _ from sameT_f m sqT (by decide), bnd_s, cT, bif_T trivial, h5, bnd_s, bif_T rfl]
  rfl
end Go.Proofs.YtpkkcjmblocjdaaGreat.Pure
end
/- What is looked at in layer 12. -/
section
set_option linter.unusedVariables false
set_option linter.unusedSimpArgs false
namespace Go.Proofs.YtpkkcjmblocjdaaGreat.Pure
open Go.RowKit Go.Proofs.YtpkkcjmblocjdaaGreat.AM PL

def manyw (p : Poly) : Prop := (p.1.length > 24 ∧ p.1.length ≤ 200) ∨ (p.2.1.length > 60 ∧ p.2.1.length ≤ 400) ∨ (p.2.2.length > 60 ∧ p.2.2.length ≤ 400) ∨ p.1.length > 300 ∨ p.2.1.length > 500 ∨ p.2.2.length > 500
theorem manyW_f (k : Nat) (p : Poly) : ∃ b, g_parquetlaw12_many k p = some b ∧ (b = false → ¬ manyw p) := by
  unfold g_parquetlaw12_many
  simp only [meet]
  have key : ∀ x : Option Bool, (∃ b, x = some b ∧ (b = false → ¬ manyw p)) → ∃ b, x = some b ∧ (b = false → ¬ manyw p) := fun _ h => h
  have last : ¬ (p.1.length > 24 ∧ p.1.length ≤ 200) → ¬ (p.2.1.length > 60 ∧ p.2.1.length ≤ 400) → ¬ (p.2.2.length > 60 ∧ p.2.2.length ≤ 400) →
      ∃ b, (bif decide ((p.1.length : Int) > 300) then some true else bif decide ((p.2.1.length : Int) > 500) then some true else some (decide ((p.2.2.length : Int) > 500))) = some b ∧ (b = false → ¬ manyw p) := by
    intro h1 h2 h3
    by_cases c1 : (p.1.length : Int) > 300
    · rw [bif_T c1]; exact ⟨true, rfl, fun h => by cases h⟩
    rw [bif_F c1]
    by_cases c2 : (p.2.1.length : Int) > 500
    · rw [bif_T c2]; exact ⟨true, rfl, fun h => by cases h⟩
    rw [bif_F c2]
    refine ⟨_, rfl, fun h => ?_⟩
    have := of_decide_eq_false h
    unfold manyw
    omega
  have third : ¬ (p.1.length > 24 ∧ p.1.length ≤ 200) → ¬ (p.2.1.length > 60 ∧ p.2.1.length ≤ 400) →
      ∃ b, (bif decide ((p.2.2.length : Int) > 60) then bif decide ((p.2.2.length : Int) ≤ 400) then some true else (bif decide ((p.1.length : Int) > 300) then some true else bif decide ((p.2.1.length : Int) > 500) then some true else some (decide ((p.2.2.length : Int) > 500))) else (bif decide ((p.1.length : Int) > 300) then some true else bif decide ((p.2.1.length : Int) > 500) then some true else some (decide ((p.2.2.length : Int) > 500)))) = some b ∧ (b = false → ¬ manyw p) := by
    intro h1 h2
    by_cases c1 : (p.2.2.length : Int) > 60
    · rw [bif_T c1]
      by_cases c2 : (p.2.2.length : Int) ≤ 400
      · rw [bif_T c2]; exact ⟨true, rfl, fun h => by cases h⟩
      · rw [bif_F c2]; exact last h1 h2 (by omega)
    · rw [bif_F c1]; exact last h1 h2 (by omega)
  have second : ¬ (p.1.length > 24 ∧ p.1.length ≤ 200) →
      ∃ b, (bif decide ((p.2.1.length : Int) > 60) then bif decide ((p.2.1.length : Int) ≤ 400) then some true else (bif decide ((p.2.2.length : Int) > 60) then bif decide ((p.2.2.length : Int) ≤ 400) then some true else (bif decide ((p.1.length : Int) > 300) then some true else bif decide ((p.2.1.length : Int) > 500) then some true else some (decide ((p.2.2.length : Int) > 500))) else (bif decide ((p.1.length : Int) > 300) then some true else bif decide ((p.2.1.length : Int) > 500) then some true else some (decide ((p.2.2.length : Int) > 500)))) else (bif decide ((p.2.2.length : Int) > 60) then bif decide ((p.2.2.length : Int) ≤ 400) then some true else (bif decide ((p.1.length : Int) > 300) then some true else bif decide ((p.2.1.length : Int) > 500) then some true else some (decide ((p.2.2.length : Int) > 500))) else (bif decide ((p.1.length : Int) > 300) then some true else bif decide ((p.2.1.length : Int) > 500) then some true else some (decide ((p.2.2.length : Int) > 500))))) = some b ∧ (b = false → ¬ manyw p) := by
    intro h1
    by_cases c1 : (p.2.1.length : Int) > 60
    · rw [bif_T c1]
      by_cases c2 : (p.2.1.length : Int) ≤ 400
      · rw [bif_T c2]; exact ⟨true, rfl, fun h => by cases h⟩
      · rw [bif_F c2]; exact third h1 (by omega)
    · rw [bif_F c1]; exact third h1 (by omega)
  by_cases c1 : (p.1.length : Int) > 24
  · rw [bif_T c1]
    by_cases c2 : (p.1.length : Int) ≤ 200
    · rw [bif_T c2]; exact ⟨true, rfl, fun h => by cases h⟩
    · rw [bif_F c2]; exact second (by omega)
  · rw [bif_F c1]; exact second (by omega)
theorem few_of {p : Poly} (h : ¬ manyw p) : chk p = false ∨ Few p := by
  unfold manyw at h
  cases hc : chk p with
  | false => exact .inl rfl
  | true =>
    refine .inr ?_
    have hf : few3 p := by
      unfold chk at hc
      rw [Bool.and_eq_true] at hc
      exact of_decide_eq_true hc.1
    unfold few3 at hf
    exact ⟨⟨hc, by omega, by omega, by omega⟩, by omega, by omega, by omega⟩
end Go.Proofs.YtpkkcjmblocjdaaGreat.Pure
end
/- The reference's edges. -/
section
set_option linter.unusedVariables false
set_option linter.unusedSimpArgs false
namespace Go.Proofs.YtpkkcjmblocjdaaGreat.Pure
open Go.RowKit Go.Proofs.YtpkkcjmblocjdaaGreat.AM PL

theorem Ordr.eqp {α : Type} {lt : α → α → Prop} (o : Ordr lt) {l r : List α} (hl : l.Pairwise fun x y => ¬ lt y x) (hr : r.Pairwise fun x y => ¬ lt y x) (h : l.Perm r) : l = r :=
  List.Perm.eq_of_pairwise (fun a b _ _ h1 h2 => o.tri h2 h1) hl hr h
def insP (s : Pt) : List Pt → List Pt
  | [] => [s]
  | x :: r => if ltS x s then x :: insP s r else if x = s then s :: r else s :: x :: r
theorem insP_len (s : Pt) : ∀ l, (insP s l).length ≤ l.length + 1
  | [] => by simp [insP]
  | x :: r => by
    have := insP_len s r
    unfold insP
    (repeat' split) <;> simp only [List.length_cons] <;> omega
theorem mem_insP (s y : Pt) : ∀ l, y ∈ insP s l ↔ y = s ∨ y ∈ l
  | [] => by simp [insP]
  | x :: r => by
    have ih := mem_insP s y r
    unfold insP
    split
    · simp only [List.mem_cons, ih]
      constructor
      · rintro (h | h | h)
        · exact .inr (.inl h)
        · exact .inl h
        · exact .inr (.inr h)
      · rintro (h | h | h)
        · exact .inr (.inl h)
        · exact .inl h
        · exact .inr (.inr h)
    · split
      · rename_i h2
        subst h2
        simp
      · simp
theorem insP_srt (s : Pt) : ∀ {l : List Pt}, l.Pairwise ltS → (insP s l).Pairwise ltS
  | [], _ => by simp [insP]
  | x :: r, h => by
    have h' := List.pairwise_cons.1 h
    unfold insP
    split
    · rename_i h1
      refine List.pairwise_cons.2 ⟨fun y hy => ?_, insP_srt s h'.2⟩
      rcases (mem_insP s y r).1 hy with rfl | hy
      · exact h1
      · exact h'.1 y hy
    · rename_i h1
      split
      · rename_i h2
        subst h2
        exact h
      · rename_i h2
        have h3 : ltS s x := by
          apply Decidable.byContradiction
          intro h3
          exact h2 (ordS.tri h1 h3)
        refine List.pairwise_cons.2 ⟨fun y hy => ?_, h⟩
        rcases List.mem_cons.1 hy with rfl | hy
        · exact h3
        · exact ordS.tr h3 (h'.1 y hy)
theorem Lay_f (m : Nat) (l : List Pt) (s : Pt) (hl : l.length ≤ 900) : g_parquetref12_Lay (m + 1000) l s = some (insP (up s) l) := by
  unfold g_parquetref12_Lay
  have main : ∀ t : Pt, up s = t → ∀ F : (List Pt × Pt × List Pt × Int) → ((List Pt × Pt × List Pt × Int) → Option (List Pt)) → Option (List Pt),
      (∀ x4 x5 x6 x7 next3, F (x4, x5, x6, x7) next3 = meet (α := ((List (Int × Int)) × ((Int × Int) × ((List (Int × Int)) × (Int × Bool))))) (fun (y8, y9, y10, y11, y12) =>
     bif y12 then
      gd (inb y11 y8.length) <|
      gd (few (y10.length + 1)) <|
      next3 (y8, (y9.1, y9.2), y10 ++ [((rdD (0, 0) y8 y11).1, (rdD (0, 0) y8 y11).2)], w64 (y11 + 1))
     else
      meet (α := ((List (Int × Int)) × ((Int × Int) × ((List (Int × Int)) × (Int × Bool))))) (fun (y13, y14, y15, y16, y17) =>
       meet (α := ((List (Int × Int)) × ((Int × Int) × ((List (Int × Int)) × Int)))) (fun (y18, y19, y20, y21) =>
        gd (few (y20.length + 1)) <|
        gd (decide (0 ≤ y21)) <|
        gd (decide (y21 ≤ (y18.length : Int))) <|
        gd (few ((y20 ++ [(y19.1, y19.2)]).length + (dpL y18 y21).length)) <|
        some ((y20 ++ [(y19.1, y19.2)]) ++ (dpL y18 y21))) fun j22 =>
       bif y17 then
        j22 (y13, (y14.1, y14.2), y15, w64 (y16 + 1))
       else
        j22 (y13, (y14.1, y14.2), y15, y16)) fun j23 =>
      bif decide (y11 < (y8.length : Int)) then
       gd (inb y11 y8.length) <|
       j23 (y8, (y9.1, y9.2), y10, y11, (decide ((rdD (0, 0) y8 y11).1 = y9.1)) && (decide ((rdD (0, 0) y8 y11).2 = y9.2)))
      else
       j23 (y8, (y9.1, y9.2), y10, y11, false)) fun j24 =>
    bif decide (x7 < (x4.length : Int)) then
     gd (inb x7 x4.length) <|
     bif decide ((rdD (0, 0) x4 x7).1 < x5.1) then
      j24 (x4, (x5.1, x5.2), x6, x7, true)
     else
      gd (inb x7 x4.length) <|
      bif decide ((rdD (0, 0) x4 x7).1 = x5.1) then
       gd (inb x7 x4.length) <|
       j24 (x4, (x5.1, x5.2), x6, x7, decide ((rdD (0, 0) x4 x7).2 < x5.2))
      else
       j24 (x4, (x5.1, x5.2), x6, x7, false)
    else
     j24 (x4, (x5.1, x5.2), x6, x7, false)) → loopN F (m + 1000) (l, t, [], 0) = some (insP (up s) l) := by
    intro t et F hF
    rw [et]
    have hdp : ∀ i : Nat, dpL l (i : Int) = l.drop i := fun i => by unfold dpL; rw [Int.toNat_natCast]
    refine (loop_list (fun i => (l, t, l.take i, (i : Int))) l.length (fun i => some (l.take i ++ insP t (l.drop i))) (fun next => ?_) (fun i hi next hn => ?_) (m + 1000) 0 (by omega) (by omega)).trans rfl
    · rw [hF]
      simp only [meet]
      rw [bif_F (by omega), cF, bif_F (by omega), cF, gd_t (few_t (by rw [List.length_take]; omega)), gd_t (decide_eq_true (by omega)), gd_t (decide_eq_true (by omega)), hdp, List.drop_length]
      rw [gd_t (few_t (by simp; omega))]
      show some ((l.take l.length ++ [t]) ++ []) = some (l.take l.length ++ [t])
      rw [List.append_nil]
    · have hin : inb (i : Int) l.length = true := inb_t ⟨by omega, by omega⟩
      rw [hF]
      simp only [meet, hin, gT, rd_get _ l i hi]
      rw [bif_T (show (i : Int) < (l.length : Int) by omega), bif_T (show (i : Int) < (l.length : Int) by omega)]
      rw [List.drop_eq_getElem_cons hi]
      have hlt : ltS l[i] t → (gd (few ((l.take i).length + 1)) (next (l, (t.1, t.2), l.take i ++ [(l[i].1, l[i].2)], w64 ((i : Int) + 1)))) = some (l.take i ++ insP t (l[i] :: l.drop (i + 1))) := by
        intro h
        rw [gd_t (few_t (by rw [List.length_take]; omega)), w64_id (x := (i : Int) + 1) (by omega) (by omega), show insP t (l[i] :: l.drop (i + 1)) = l[i] :: insP t (l.drop (i + 1)) from if_pos h]
        rw [show l.take i ++ [(l[i].1, l[i].2)] = l.take (i + 1) from (take_snoc l i hi).symm]
        refine hn.trans ?_
        rw [take_snoc l i hi, List.append_assoc]
        rfl
      have hge : ¬ ltS l[i] t → (bif (decide (l[i].1 = t.1)) && (decide (l[i].2 = t.2)) then
          gd (few ((l.take i).length + 1)) (gd (decide (0 ≤ w64 ((i : Int) + 1))) (gd (decide (w64 ((i : Int) + 1) ≤ (l.length : Int))) (gd (few ((l.take i ++ [(t.1, t.2)]).length + (dpL l (w64 ((i : Int) + 1))).length)) (some ((l.take i ++ [(t.1, t.2)]) ++ dpL l (w64 ((i : Int) + 1)))))))
          else gd (few ((l.take i).length + 1)) (gd (decide (0 ≤ (i : Int))) (gd (decide ((i : Int) ≤ (l.length : Int))) (gd (few ((l.take i ++ [(t.1, t.2)]).length + (dpL l (i : Int)).length)) (some ((l.take i ++ [(t.1, t.2)]) ++ dpL l (i : Int))))))) = some (l.take i ++ insP t (l[i] :: l.drop (i + 1))) := by
        intro h
        have e1 : w64 ((i : Int) + 1) = ((i + 1 : Nat) : Int) := by rw [w64_id (by omega) (by omega)]; rfl
        by_cases he : l[i] = t
        · rw [show ((decide (l[i].1 = t.1)) && (decide (l[i].2 = t.2))) = true by rw [he]; simp, cT, e1, hdp, gd_t (few_t (by rw [List.length_take]; omega)), gd_t (decide_eq_true (by omega)), gd_t (decide_eq_true (by omega)), gd_t (few_t (by simp; omega))]
          rw [show insP t (l[i] :: l.drop (i + 1)) = t :: l.drop (i + 1) by unfold insP; rw [if_neg h, if_pos he], List.append_assoc]
          rfl
        · rw [show ((decide (l[i].1 = t.1)) && (decide (l[i].2 = t.2))) = false by
            rw [Bool.eq_false_iff]
            intro hh
            rw [Bool.and_eq_true, decide_eq_true_eq, decide_eq_true_eq] at hh
            exact he (Prod.ext hh.1 hh.2), cF, hdp, gd_t (few_t (by rw [List.length_take]; omega)), gd_t (decide_eq_true (by omega)), gd_t (decide_eq_true (by omega)), gd_t (few_t (by simp; omega))]
          rw [show insP t (l[i] :: l.drop (i + 1)) = t :: l[i] :: l.drop (i + 1) by unfold insP; rw [if_neg h, if_neg he], List.append_assoc, List.drop_eq_getElem_cons hi]
          rfl
      by_cases c1 : l[i].1 < t.1
      · rw [bif_T c1, cT]
        exact hlt (.inl c1)
      · rw [bif_F c1]
        by_cases c2 : l[i].1 = t.1
        · rw [bif_T c2]
          by_cases c3 : l[i].2 < t.2
          · rw [decide_eq_true c3, cT]
            exact hlt (.inr ⟨c2, c3⟩)
          · rw [decide_eq_false c3, cF]
            exact hge (by unfold ltS; omega)
        · rw [bif_F c2, cF]
          exact hge (by unfold ltS; omega)
  simp only [show ∀ (A : (List Pt × Int × Int) → Option (List Pt)) (B : ((List Pt × Int × Int) → Option (List Pt)) → Option (List Pt)), meet A B = B A from fun _ _ => rfl]
  by_cases h : s.1 > s.2
  · rw [bif_T h]
    refine main (s.2, s.1) ?_ _ (fun _ _ _ _ _ => rfl)
    unfold up mnI mxI
    rw [if_pos (by omega), if_neg (by omega)]
  · rw [bif_F h]
    refine main (s.1, s.2) ?_ _ (fun _ _ _ _ _ => rfl)
    unfold up mnI mxI
    by_cases e : s.1 = s.2
    · rw [if_neg (by omega), if_neg (by omega), e]
    · rw [if_neg (by omega), if_pos (by omega)]
end Go.Proofs.YtpkkcjmblocjdaaGreat.Pure
end
/- The reference's Edges are the program's. -/
section
set_option linter.unusedVariables false
set_option linter.unusedSimpArgs false
namespace Go.Proofs.YtpkkcjmblocjdaaGreat.Pure
open Go.RowKit Go.Proofs.YtpkkcjmblocjdaaGreat.AM PL

theorem insdR (m : Nat) (a b c : Pt) : g_parquetref04_Inside (m + 1000) a b c = some (decide (Ins a b c)) := rInside_f (m + 900) a b c
theorem segsR (m : Nat) (a b c d : Pt) : g_parquetref04_Segs (m + 1000) a b c d = some (segs a b c d) := by rw [← rsegs_eq]; exact rSegs_f (m + 900) a b c d
def insA (l : List Pt) : List Pt := l.foldl (fun out e => insP (up e) out) []
theorem insA_take (l : List Pt) (i : Nat) (h : i < l.length) : insA (l.take (i + 1)) = insP (up l[i]) (insA (l.take i)) := by
  unfold insA
  rw [take_snoc l i h, List.foldl_append]
  rfl
theorem insA_props (l : List Pt) : ∀ i, i ≤ l.length → (insA (l.take i)).Pairwise ltS ∧ (insA (l.take i)).length ≤ i ∧ ∀ s, s ∈ insA (l.take i) ↔ ∃ e ∈ l.take i, up e = s
  | 0, _ => by simp [insA]
  | i + 1, hi => by
    obtain ⟨h1, h2, h3⟩ := insA_props l i (by omega)
    rw [insA_take l i (by omega)]
    refine ⟨insP_srt _ h1, ?_, fun s => ?_⟩
    · have := insP_len (up l[i]) (insA (l.take i))
      omega
    · rw [mem_insP, h3, take_snoc l i (by omega)]
      simp only [List.mem_append, List.mem_singleton]
      constructor
      · rintro (rfl | ⟨e, he, rfl⟩)
        · exact ⟨_, .inr rfl, rfl⟩
        · exact ⟨e, .inl he, rfl⟩
      · rintro ⟨e, he | rfl, rfl⟩
        · exact .inr ⟨e, he, rfl⟩
        · exact .inl rfl
theorem insA_segs {p : Poly} (hF : Fine p) : insA (sgs p) = segsv p := by
  obtain ⟨h1, h2, h3⟩ := insA_props (sgs p) (sgs p).length (Nat.le_refl _)
  rw [List.take_length] at h1 h3
  refine ordS.ext h1 (ordS.srt cf49 ?_) fun s => ?_
  · rw [List.nodup_iff_pairwise_ne, List.pairwise_map]
    exact hF.two
  · rw [h3]
    exact (segsv_mem p s).symm
theorem rsegs_f (m : Nat) {p : Poly} (hF : Fine p) : g_parquetref12_segs (m + 1000) p = some (segsv p) := by
  unfold g_parquetref12_segs b_parquetref12_segs
  have hl := hF.sm.len
  rw [show g_parquetref10_All (m + 1000) (p.1, p.2.1, p.2.2) = _ from rAll_f _ hF.sm, bnd_s, ← insA_segs hF]
  refine loop_from (fun i => (insA ((sgs p).take i), sgs p, (i : Int))) (sgs p).length rfl (fun next => ?_) (fun i hi next hn => ?_) _ (by omega)
  · dsimp only
    rw [bif_F (by omega), List.take_length]
  · dsimp only
    have := (insA_props (sgs p) i (by omega)).2.1
    rw [bif_T (by omega), gd_t (inb_t ⟨by omega, by omega⟩), rd_get _ _ i hi, Lay_f m _ _ (by omega), bnd_s, w64_id (x := (i : Int) + 1) (by omega) (by omega), ← hn, insA_take _ i hi]
    rfl
theorem has_mem {l : List Pt} (hl : ∀ s ∈ l, s.1 < s.2) {a b : Int} (hab : a < b) : hasv l a b = decide ((a, b) ∈ l) := by
  unfold hasv
  rw [Bool.eq_iff_iff, List.any_eq_true, decide_eq_true_eq]
  constructor
  · rintro ⟨s, hs, h⟩
    rcases of_decide_eq_true h with ⟨h1, h2⟩ | ⟨h1, h2⟩
    · rw [← h1, ← h2]; exact hs
    · have := hl s hs
      omega
  · intro h
    exact ⟨_, h, decide_eq_true (.inl ⟨rfl, rfl⟩)⟩
theorem rgoes_f (m : Nat) {p : Poly} (hF : Fine p) {l : List Pt} {a b : Int} (hl : l.length ≤ 900) (ha : inr a p.1.length) (hb : inr b p.1.length) (hab : a < b) (hs : ∀ s ∈ l, oks p.1.length s ∧ s.1 < s.2) : g_parquetref12_goes (m + 1000) p l a b = some (goesv p l a b) := by
  have hp := hF.sm.P
  have hL := hF.sm.L
  unfold g_parquetref12_goes b_parquetref12_goes
  rw [Has_f m l a b hl, bnd_s, has_mem (fun s h => (hs s h).2) hab]
  by_cases hm : (a, b) ∈ l
  · rw [decide_eq_true hm, cT]
    cases hg : goesv p l a b with
    | false => rfl
    | true => exact absurd hm (goes_new hF ha hb (by omega) hg)
  rw [decide_eq_false hm, cF]
  unfold goesv
  have ep : ∀ i : Int, ((rdD (0, 0) p.1 i).1, (rdD (0, 0) p.1 i).2) = pt p.1 i := fun _ => rfl
  refine (loop_anyE (fun i => (l, a, b, p, (i : Int))) p.1.length (fun i => decide (Ins (pt p.1 a) (pt p.1 b) (rdD (0, 0) p.1 (i : Int)))) (some false) (some (!crsB p.1 l a b && decide ((midv p.1 p.2.1 [a, b]).1 = 1))) rfl (fun next => ?_) (fun i hi next => ?_) _ (by omega)).trans ?_
  · dsimp only
    rw [bif_F (by omega)]
    refine (loop_anyE (fun i => (l, a, b, p, (i : Int))) l.length (fun i => decide ((segs (pt p.1 a) (pt p.1 b) (pt p.1 (rdD (0, 0) l (i : Int)).1) (pt p.1 (rdD (0, 0) l (i : Int)).2)).1 > 1)) (some false) (some (decide ((midv p.1 p.2.1 [a, b]).1 = 1))) rfl (fun next => ?_) (fun i hi next => ?_) _ (by omega)).trans ?_
    · dsimp only
      rw [bif_F (by omega), midT m _ _ _ (by simp) (by simp) (by omega), bnd_s]
    · dsimp only
      have h0 := (hs _ (List.getElem_mem hi)).1
      have hin : inb (i : Int) l.length = true := inb_t ⟨by omega, by omega⟩
      rw [bif_T (by omega)]
      simp only [meet, hin, gT, inb_r ha, inb_r hb, rd_get _ l i hi, inb_t h0.1, inb_t h0.2, ep, segsR, bnd_s]
      rw [w64_id (x := (i : Int) + 1) (by omega) (by omega)]
      have hnn : 0 ≤ (segs (pt p.1 a) (pt p.1 b) (pt p.1 l[i].1) (pt p.1 l[i].2)).1 := by
        unfold segs how
        (repeat' split) <;> simp
      generalize (segs (pt p.1 a) (pt p.1 b) (pt p.1 l[i].1) (pt p.1 l[i].2)).1 = x at *
      by_cases c0 : x = 0
      · rw [bif_nT c0, cF, decide_eq_false (show ¬ x > 1 by omega)]; rfl
      · rw [bif_nF c0]
        by_cases c1 : x = 1
        · rw [bif_nT c1, decide_eq_false (show ¬ x > 1 by omega)]; rfl
        · rw [bif_nF c1, decide_eq_true (show x > 1 by omega)]; rfl
    · rw [range_any (0, 0) l fun s => decide ((segs (pt p.1 a) (pt p.1 b) (pt p.1 s.1) (pt p.1 s.2)).1 > 1)]
      exact bifs _ _
  · dsimp only
    have hin : inb (i : Int) p.1.length = true := inb_t ⟨by omega, by omega⟩
    rw [bif_T (by omega)]
    simp only [hin, gT, inb_r ha, inb_r hb, ep, insdR, bnd_s]
    rw [w64_id (x := (i : Int) + 1) (by omega) (by omega)]
    rfl
  · rw [range_any (0, 0) p.1 fun q => decide (Ins (pt p.1 a) (pt p.1 b) q)]
    exact bifs _ _
theorem goesv_congr {p : Poly} {l l' : List Pt} (h : ∀ s, s ∈ l ↔ s ∈ l') (a b : Int) : goesv p l a b = goesv p l' a b := by
  rw [Bool.eq_iff_iff]
  exact ⟨goesv_anti fun s hs => (h s).2 hs, goesv_anti fun s hs => (h s).1 hs⟩
theorem srt_mem (l : List Pt) (s : Pt) : s ∈ srtL cf_49 l ↔ s ∈ l := (srtL_prm cf_49 l).mem_iff
theorem srt_ins {l : List Pt} {s : Pt} (h : (l ++ [s]).Nodup) : insP s (srtL cf_49 l) = srtL cf_49 (l ++ [s]) := by
  refine ordS.ext (insP_srt s (ordS.srt cf49 (List.nodup_append.1 h).1)) (ordS.srt cf49 h) fun x => ?_
  rw [mem_insP, srt_mem, srt_mem]
  simp only [List.mem_append, List.mem_singleton]
  exact or_comm
theorem rEdges_bad (m : Nat) {p : Poly} (h : chk p = false) : g_parquetref12_Edges (m + 1000) p = some ([], 2) := by
  unfold g_parquetref12_Edges b_parquetref12_Edges
  rw [show g_parquetref10_Right (m + 1000) (p.1, p.2.1, p.2.2) = _ from rRight_bad m h, bnd_s]
  rfl
theorem rEdges_f (m : Nat) {p : Poly} (h : Few p) : g_parquetref12_Edges (m + 1000) p = some (if good0 p = true then (edgesv p, 0) else ([], 2)) := by
  unfold g_parquetref12_Edges b_parquetref12_Edges
  rw [show g_parquetref10_Right (m + 1000) (p.1, p.2.1, p.2.2) = _ from rRight_f m h.sm, bnd_s]
  cases hg : good0 p with
  | false => rfl
  | true =>
    have hF := (good_fine h.sm hg).1
    simp only [Bool.not_true, cF, if_true]
    have hn := h.n; have hL := h.l; have hI := h.i
    rw [show g_parquetref12_segs (m + 1000) (p.1, p.2.1, p.2.2) = _ from rsegs_f m hF, bnd_s]
    have I0 := segsv_I h.sm hL hI
    have IO : ∀ j, j ≤ p.1.length → EdgI p (outE p j (segsv p)) (24 * j) := fun j hj => (I0.out j hj).resolve_right (by omega)
    have JO : ∀ j, j ≤ p.1.length → EdgJ p (outE p j (segsv p)) := (segsv_J hF).out hF
    have e0 : srtL cf_49 (segsv p) = segsv p := ordS.ext (ordS.srt cf49 (segsv_J hF).nd) (by
      unfold segsv
      refine ordS.srt cf49 ?_
      rw [List.nodup_iff_pairwise_ne, List.pairwise_map]
      exact hF.two) (srt_mem _)
    refine loop_from (fun i => (p, srtL cf_49 (outE p i (segsv p)), (i : Int))) p.1.length ?_ (fun next => ?_) (fun i hi next hn' => ?_) _ (by omega)
    · show _ = (p, srtL cf_49 (segsv p), ((0 : Nat) : Int))
      rw [e0]
      rfl
    · dsimp only
      rw [bif_F (by omega)]
      rfl
    · dsimp only
      have Ii := IO i (by omega)
      have Ji := JO i (by omega)
      rw [bif_T (by omega), w64_id (x := (i : Int) + 1) (by omega) (by omega)]
      refine loop_from (fun j => (p, srtL cf_49 (innE p i j (outE p i (segsv p))), (i : Int), ((i + 1 + j : Nat) : Int))) (p.1.length - (i + 1)) ?_ (fun nx => ?_) (fun j hj nx hnx => ?_) _ (by omega)
      · rfl
      · dsimp only
        rw [bif_F (by omega), ← hn', outE_succ, w64_id (x := (i : Int) + 1) (by omega) (by omega)]
        rfl
      · dsimp only
        have Ij := Ii.inn (a := i) j (by omega)
        have Jj := Ji.inn hF (a := i) j (by omega)
        have Jj' := Jj.step hF (a := i) (b := i + 1 + j) (by omega) (by omega)
        have hlen := Ij.len
        have hlen2 : (srtL cf_49 (innE p i j (outE p i (segsv p)))).length ≤ 900 := by rw [(srtL_prm _ _).length_eq]; omega
        simp only [meet]
        rw [bif_T (by omega), show g_parquetref12_goes (m + 1000) (p.1, p.2.1, p.2.2) _ _ _ = _ from rgoes_f m hF (p := p) (l := srtL cf_49 (innE p i j (outE p i (segsv p)))) (a := (i : Int)) (b := ((i + 1 + j : Nat) : Int)) hlen2 ⟨by omega, by omega⟩ ⟨by omega, by omega⟩ (by omega) (fun s hs => Jj.ok s ((srt_mem _ s).1 hs)), bnd_s, w64_id (x := ((i + 1 + j : Nat) : Int) + 1) (by omega) (by omega), ← hnx, innE_succ, goesv_congr (srt_mem _)]
        unfold stepE at Jj' ⊢
        cases hgo : goesv p (innE p i j (outE p i (segsv p))) (i : Int) ((i + 1 + j : Nat) : Int) with
        | true =>
          rw [if_pos hgo] at Jj'
          rw [cT, Lay_f m _ _ hlen2, bnd_s, if_pos rfl]
          have eu : up ((i : Int), ((i + 1 + j : Nat) : Int)) = ((i : Int), ((i + 1 + j : Nat) : Int)) := by
            unfold up mnI mxI
            dsimp only
            rw [if_neg (by omega), if_pos (by omega)]
          rw [eu, srt_ins Jj'.nd]
          rfl
        | false => rw [cF, if_neg (by decide)]; rfl
end Go.Proofs.YtpkkcjmblocjdaaGreat.Pure
end
/- The reference's Make: its parts. -/
section
set_option linter.unusedVariables false
set_option linter.unusedSimpArgs false
namespace Go.Proofs.YtpkkcjmblocjdaaGreat.Pure
open Go.RowKit Go.Proofs.YtpkkcjmblocjdaaGreat.AM PL

def insT (t : Tr) : List Tr → List Tr
  | [] => [t]
  | x :: r => if ltT x t then x :: insT t r else t :: x :: r
theorem insT_perm (t : Tr) : ∀ l, (insT t l).Perm (t :: l)
  | [] => List.Perm.refl _
  | x :: r => by
    unfold insT
    split
    · exact ((insT_perm t r).cons x).trans (List.Perm.swap t x r)
    · exact List.Perm.refl _
theorem insT_srt (t : Tr) : ∀ {l : List Tr}, (l.Pairwise fun x y => ¬ ltT y x) → (insT t l).Pairwise fun x y => ¬ ltT y x
  | [], _ => by simp [insT]
  | x :: r, h => by
    have h' := List.pairwise_cons.1 h
    unfold insT
    split
    · rename_i h1
      refine List.pairwise_cons.2 ⟨fun y hy => ?_, insT_srt t h'.2⟩
      rcases List.mem_cons.1 ((insT_perm t r).mem_iff.1 hy) with rfl | hy
      · exact fun h2 => ordT.irr _ (ordT.tr h1 h2)
      · exact h'.1 y hy
    · rename_i h1
      refine List.pairwise_cons.2 ⟨fun y hy => ?_, h⟩
      rcases List.mem_cons.1 hy with rfl | hy
      · exact h1
      · intro h2
        by_cases h3 : ltT t x
        · exact h'.1 y hy (ordT.tr h2 h3)
        · rw [ordT.tri h1 h3] at h'
          exact h'.1 y hy h2
theorem srt_insT (l : List Tr) (t : Tr) : insT t (srtL cf_57 l) = srtL cf_57 (l ++ [t]) := by
  refine ordT.eqp (insT_srt t (ordT.pair cf57 l)) (ordT.pair cf57 _) ?_
  refine (insT_perm t _).trans (List.Perm.trans ?_ (srtL_prm cf_57 (l ++ [t])).symm)
  exact ((srtL_prm cf_57 l).cons t).trans (List.perm_append_singleton t l).symm
theorem Put_f (m : Nat) (l : List Tr) (t : Tr) (hl : l.length ≤ m + 900) (hl2 : l.length ≤ 30000) : g_parquetref12_Put (m + 1000) l t = some (insT t l) := by
  unfold g_parquetref12_Put b_parquetref12_Put
  have hdp : ∀ i : Nat, dpL l (i : Int) = l.drop i := fun i => by unfold dpL; rw [Int.toNat_natCast]
  refine (loop_list (fun i => (l, t, l.take i, (i : Int))) l.length (fun i => some (l.take i ++ insT t (l.drop i))) (fun next => ?_) (fun i hi next hn => ?_) (m + 1000) 0 (by omega) (by omega)).trans rfl
  · dsimp only
    simp only [meet]
    rw [bif_F (by omega), cF, gd_t (few_t (by rw [List.length_take]; omega)), gd_t (decide_eq_true (by omega)), gd_t (decide_eq_true (by omega)), hdp, List.drop_length]
    rw [gd_t (few_t (by simp; omega))]
    show some ((l.take l.length ++ [t]) ++ []) = some (l.take l.length ++ [t])
    rw [List.append_nil]
  · dsimp only
    have hin : inb (i : Int) l.length = true := inb_t ⟨by omega, by omega⟩
    simp only [meet, hin, gT, rd_get _ l i hi, before_f, bnd_s]
    rw [bif_T (show (i : Int) < (l.length : Int) by omega), List.drop_eq_getElem_cons hi]
    by_cases h : ltT l[i] t
    · rw [show decide (ltT (l[i].1, l[i].2.1, l[i].2.2) (t.1, t.2.1, t.2.2)) = true from decide_eq_true h, cT, gd_t (few_t (by rw [List.length_take]; omega)), w64_id (x := (i : Int) + 1) (by omega) (by omega), show insT t (l[i] :: l.drop (i + 1)) = l[i] :: insT t (l.drop (i + 1)) from if_pos h]
      rw [show l.take i ++ [(l[i].1, l[i].2.1, l[i].2.2)] = l.take (i + 1) from (take_snoc l i hi).symm]
      refine hn.trans ?_
      rw [take_snoc l i hi, List.append_assoc]
      rfl
    · rw [show decide (ltT (l[i].1, l[i].2.1, l[i].2.2) (t.1, t.2.1, t.2.2)) = false from decide_eq_false h, cF, gd_t (few_t (by rw [List.length_take]; omega)), gd_t (decide_eq_true (by omega)), gd_t (decide_eq_true (by omega)), hdp, gd_t (few_t (by simp; omega))]
      rw [show insT t (l[i] :: l.drop (i + 1)) = t :: l[i] :: l.drop (i + 1) from if_neg h, List.append_assoc, List.drop_eq_getElem_cons hi]
      rfl
theorem rIn_f (m : Nat) {P : List Pt} {t : Tr} (h : inr t.1 P.length ∧ inr t.2.1 P.length ∧ inr t.2.2 P.length) (q : Pt) : g_parquetref12_In (m + 1000) P t q = some (inT P t q) := by
  unfold g_parquetref12_In b_parquetref12_In inT
  have ep : ∀ i : Int, ((rdD (0, 0) P i).1, (rdD (0, 0) P i).2) = pt P i := fun _ => rfl
  have eq : ((q.1, q.2) : Pt) = q := rfl
  have key : ∀ a b c : Pt, (!(decide (ori a b c = -1))) = decide (ori a b c ≥ 0) := by
    intro a b c
    have := ori_range a b c
    by_cases h : ori a b c = -1
    · rw [decide_eq_true h, decide_eq_false (by omega)]; rfl
    · rw [decide_eq_false h, decide_eq_true (by omega)]; rfl
  simp only [meet, inb_r h.1, inb_r h.2.1, inb_r h.2.2, gT, ep, eq, rOriT, bnd_s, key]
  cases decide (ori (pt P t.1) (pt P t.2.1) q ≥ 0) <;> cases decide (ori (pt P t.2.1) (pt P t.2.2) q ≥ 0) <;> rfl
def oth3 (a b c i : Int) : Bool := !(decide (i = a)) && (!(decide (i = b)) && !(decide (i = c)))
def emp3 (P : List Pt) (a b c : Int) (t : Tr) (n : Nat) : Bool := (List.range n).all fun i => !(oth3 a b c (i : Int) && inT P t (pt P (i : Int)))
theorem emp3_succ (P : List Pt) (a b c : Int) (t : Tr) (n : Nat) : emp3 P a b c t (n + 1) = (emp3 P a b c t n && !(oth3 a b c (n : Int) && inT P t (pt P (n : Int)))) := by
  unfold emp3
  rw [List.range_succ, List.all_append]
  simp
abbrev St10 : Type := Poly × Mesh × List Pt × Mesh × Int × Int × Int × Tr × Bool × Int
theorem rmkI (m : Nat) {ρ : Type} {p : Poly} (hp : p.1.length ≤ 900) {D M : Mesh} {E : List Pt} {a b c : Int} {t : Tr} (ok : Bool) (ht : ok = true → inr t.1 p.1.length ∧ inr t.2.1 p.1.length ∧ inr t.2.2 p.1.length) {J : Poly → Mesh → List Pt → Mesh → Int → Int → Int → Tr → Bool → Option ρ} {F : St10 → (St10 → Option ρ) → Option ρ}
    (hF : ∀ (x43 : Poly) (x44 : Mesh) x45 (x46 : Mesh) x47 x48 x49 (x50 : Tr) x51 x52 next42, F (x43, x44, x45, x46, x47, x48, x49, x50, x51, x52) next42 =
            meet (α := (((List (Int × Int)) × ((List (Int × Int)) × (List (Int × Int)))) × (((List (Int × Int)) × ((List (Int × (Int × Int))) × (List (Int × Int)))) × ((List (Int × Int)) × (((List (Int × Int)) × ((List (Int × (Int × Int))) × (List (Int × Int)))) × (Int × (Int × (Int × ((Int × (Int × Int)) × (Bool × (Int × Bool))))))))))) (fun (y53, y54, y55, y56, y57, y58, y59, y60, y61, y62, y63) =>
             bif y63 then
              meet (α := (((List (Int × Int)) × ((List (Int × Int)) × (List (Int × Int)))) × (((List (Int × Int)) × ((List (Int × (Int × Int))) × (List (Int × Int)))) × ((List (Int × Int)) × (((List (Int × Int)) × ((List (Int × (Int × Int))) × (List (Int × Int)))) × (Int × (Int × (Int × ((Int × (Int × Int)) × (Bool × Int)))))))))) (fun (y64, y65, y66, y67, y68, y69, y70, y71, y72, y73) =>
               next42 ((y64.1, y64.2.1, y64.2.2), (y65.1, y65.2.1, y65.2.2), y66, (y67.1, y67.2.1, y67.2.2), y68, y69, y70, (y71.1, y71.2.1, y71.2.2), y72, w64 (y73 + 1))) fun j74 =>
              bif decide (y62 = y57) then
               j74 ((y53.1, y53.2.1, y53.2.2), (y54.1, y54.2.1, y54.2.2), y55, (y56.1, y56.2.1, y56.2.2), y57, y58, y59, (y60.1, y60.2.1, y60.2.2), true, y62)
              else
               bif decide (y62 = y58) then
                j74 ((y53.1, y53.2.1, y53.2.2), (y54.1, y54.2.1, y54.2.2), y55, (y56.1, y56.2.1, y56.2.2), y57, y58, y59, (y60.1, y60.2.1, y60.2.2), true, y62)
               else
                bif decide (y62 = y59) then
                 j74 ((y53.1, y53.2.1, y53.2.2), (y54.1, y54.2.1, y54.2.2), y55, (y56.1, y56.2.1, y56.2.2), y57, y58, y59, (y60.1, y60.2.1, y60.2.2), true, y62)
                else
                 gd (inb y62 y53.1.length) <|
                 bnd (g_parquetref12_In (m + 1000) y53.1 (y60.1, y60.2.1, y60.2.2) ((rdD (0, 0) y53.1 y62).1, (rdD (0, 0) y53.1 y62).2)) fun r75 =>
                 j74 ((y53.1, y53.2.1, y53.2.2), (y54.1, y54.2.1, y54.2.2), y55, (y56.1, y56.2.1, y56.2.2), y57, y58, y59, (y60.1, y60.2.1, y60.2.2), !r75, y62)
             else
              J y53 y54 y55 y56 y57 y58 y59 y60 y61) fun j85 =>
            bif decide (x52 < (x43.1.length : Int)) then
             j85 ((x43.1, x43.2.1, x43.2.2), (x44.1, x44.2.1, x44.2.2), x45, (x46.1, x46.2.1, x46.2.2), x47, x48, x49, (x50.1, x50.2.1, x50.2.2), x51, x52, x51)
            else
             j85 ((x43.1, x43.2.1, x43.2.2), (x44.1, x44.2.1, x44.2.2), x45, (x46.1, x46.2.1, x46.2.2), x47, x48, x49, (x50.1, x50.2.1, x50.2.2), x51, x52, false)) :
    loopN F (m + 1000) (p, D, E, M, a, b, c, t, ok, 0) = J p D E M a b c t (ok && emp3 p.1 a b c t p.1.length) := by
  have mono : ∀ d i, emp3 p.1 a b c t i = false → emp3 p.1 a b c t (i + d) = false := by
    intro d
    induction d with
    | zero => intro i h; exact h
    | succ d ih => intro i h; rw [show i + (d + 1) = (i + d) + 1 by omega, emp3_succ, ih i h]; rfl
  refine loop_from (fun i => (p, D, E, M, a, b, c, t, ok && emp3 p.1 a b c t i, (i : Int))) p.1.length ?_ (fun nx => ?_) (fun i hi nx hnx => ?_) _ (by omega)
  · show _ = (p, D, E, M, a, b, c, t, ok && true, ((0 : Nat) : Int))
    rw [Bool.and_true]
    rfl
  · rw [hF]
    simp only [meet]
    rw [bif_F (by omega)]
    rfl
  · rw [hF]
    simp only [meet]
    rw [bif_T (show (i : Int) < (p.1.length : Int) by omega)]
    cases hok : ok && emp3 p.1 a b c t i with
    | false =>
      have : (ok && emp3 p.1 a b c t p.1.length) = false := by
        rw [Bool.and_eq_false_iff] at hok ⊢
        rcases hok with h | h
        · exact .inl h
        · have := mono (p.1.length - i) i h
          rw [show i + (p.1.length - i) = p.1.length by omega] at this
          exact .inr this
      rw [this]
      rfl
    | true =>
      rw [Bool.and_eq_true] at hok
      have hin : inb (i : Int) p.1.length = true := inb_t ⟨by omega, by omega⟩
      have ep : ∀ i : Int, ((rdD (0, 0) p.1 i).1, (rdD (0, 0) p.1 i).2) = pt p.1 i := fun _ => rfl
      have et : ((t.1, t.2.1, t.2.2) : Tr) = t := rfl
      simp only [cT, hin, gT, ep, et, rIn_f m (ht hok.1), bnd_s]
      rw [w64_id (x := (i : Int) + 1) (by omega) (by omega), ← hnx, emp3_succ, hok.1, hok.2]
      unfold oth3
      cases decide ((i : Int) = a) <;> cases decide ((i : Int) = b) <;> cases decide ((i : Int) = c) <;> rfl
theorem rot_set {a b c : Int} {t : Tr} (h : t = rot3 a b c) (i : Int) : othB t i = oth3 a b c i := by
  subst h
  unfold rot3 othB oth3
  (repeat' split) <;> dsimp only <;> (cases decide (i = a) <;> cases decide (i = b) <;> cases decide (i = c) <;> rfl)
theorem triv_set {p : List Pt} {a b c : Int} (h : (triv p a b c).2 = true) (i : Int) : othB (triv p a b c).1 i = oth3 a b c i := by
  unfold triv at h ⊢
  split at h
  · rename_i hr
    rw [if_pos hr]
    split at h
    · cases h
    · rename_i h0
      rw [if_neg h0]
      split
      · rw [rot_set rfl]
        unfold oth3
        cases decide (i = a) <;> cases decide (i = b) <;> cases decide (i = c) <;> rfl
      · exact rot_set rfl i
  · cases h
theorem emp_same {p : List Pt} {a b c : Int} (h : (triv p a b c).2 = true) : emp3 p a b c (triv p a b c).1 p.length = empV p (triv p a b c).1 := by
  unfold emp3 empV
  rw [List.not_any_eq_all_not]
  congr 1
  funext i
  rw [triv_set h]
theorem triv_in {p : List Pt} {a b c : Int} (h : (triv p a b c).2 = true) : inr (triv p a b c).1.1 p.length ∧ inr (triv p a b c).1.2.1 p.length ∧ inr (triv p a b c).1.2.2 p.length := by
  unfold triv at h ⊢
  split at h
  · rename_i hr
    rw [if_pos hr]
    obtain ⟨h1, h2, h3⟩ := hr
    split at h
    · cases h
    · rename_i h0
      rw [if_neg h0]
      have r3 : ∀ x y z : Int, inr x p.length → inr y p.length → inr z p.length → inr (rot3 x y z).1 p.length ∧ inr (rot3 x y z).2.1 p.length ∧ inr (rot3 x y z).2.2 p.length := by
        intro x y z hx hy hz
        unfold rot3
        (repeat' split)
        · exact ⟨hx, hy, hz⟩
        · exact ⟨hy, hz, hx⟩
        · exact ⟨hz, hx, hy⟩
      split
      · exact r3 _ _ _ h1 h3 h2
      · exact r3 _ _ _ h1 h2 h3
  · cases h
abbrev StC : Type := Poly × Mesh × List Pt × Mesh × Int × Int × Int
theorem rmkC (m : Nat) {ρ : Type} {p : Poly} (h : Few p) {D : Mesh} {E : List Pt} (hE : E.length ≤ 700) (hlt : ∀ s ∈ E, s.1 < s.2) {a b : Int} (ha : inr a p.1.length) (hb : inr b p.1.length) (hab : a < b) (A : List Tr) (hA : A.length ≤ 20000) {R S : List Pt} {K : Poly → Mesh → List Pt → Mesh → Int → Int → Option ρ} {v : Option ρ}
    (hK : K p D E (R, srtL cf_57 (A ++ if (a, b) ∈ E then rowF p E (a, b) else []), S) a b = v)
    {I : (StC → Option ρ) → Poly → Mesh → List Pt → Mesh → Int → Int → Int → Tr → Bool → Option ρ}
    (hI : ∀ next (B : List Tr) c t ok, B.length ≤ 20050 → (ok = true → inr t.1 p.1.length ∧ inr t.2.1 p.1.length ∧ inr t.2.2 p.1.length) → I next p D E (R, B, S) a b c t ok = (bif ok && emp3 p.1 a b c t p.1.length then next (p, D, E, (R, insT t B, S), a, b, w64 (c + 1)) else next (p, D, E, (R, B, S), a, b, w64 (c + 1))))
    {F : StC → (StC → Option ρ) → Option ρ}
    (hF : ∀ (x16 : Poly) (x17 : Mesh) x18 (x19 : Mesh) x20 x21 x22 next15, F (x16, x17, x18, x19, x20, x21, x22) next15 =
        meet (α := (((List (Int × Int)) × ((List (Int × Int)) × (List (Int × Int)))) × (((List (Int × Int)) × ((List (Int × (Int × Int))) × (List (Int × Int)))) × ((List (Int × Int)) × (((List (Int × Int)) × ((List (Int × (Int × Int))) × (List (Int × Int)))) × (Int × (Int × (Int × Bool)))))))) (fun (y23, y24, y25, y26, y27, y28, y29, y30) =>
         bif y30 then
          bnd (g_parquetref12_Tri (m + 1000) y23.1 y27 y28 y29) fun r31 =>
          bnd (g_parquetref09_Middle (m + 1000) y23.1 y23.2.1 [y27, y28, y29]) fun r32 =>
          meet (α := (((List (Int × Int)) × ((List (Int × Int)) × (List (Int × Int)))) × (((List (Int × Int)) × ((List (Int × (Int × Int))) × (List (Int × Int)))) × ((List (Int × Int)) × (((List (Int × Int)) × ((List (Int × (Int × Int))) × (List (Int × Int)))) × (Int × (Int × (Int × ((Int × (Int × Int)) × Bool))))))))) (fun (y33, y34, y35, y36, y37, y38, y39, y40, y41) =>
           I next15 y33 y34 y35 y36 y37 y38 y39 y40 y41) fun j86 =>
          bif r31.2 then
           bif decide (r32.1 = 1) then
            bnd (g_parquetref12_Has (m + 1000) y25 y27 y29) fun r87 =>
            bif r87 then
             bnd (g_parquetref12_Has (m + 1000) y25 y28 y29) fun r88 =>
             j86 ((y23.1, y23.2.1, y23.2.2), (y24.1, y24.2.1, y24.2.2), y25, (y26.1, y26.2.1, y26.2.2), y27, y28, y29, (r31.1.1, r31.1.2.1, r31.1.2.2), r88)
            else
             j86 ((y23.1, y23.2.1, y23.2.2), (y24.1, y24.2.1, y24.2.2), y25, (y26.1, y26.2.1, y26.2.2), y27, y28, y29, (r31.1.1, r31.1.2.1, r31.1.2.2), false)
           else
            j86 ((y23.1, y23.2.1, y23.2.2), (y24.1, y24.2.1, y24.2.2), y25, (y26.1, y26.2.1, y26.2.2), y27, y28, y29, (r31.1.1, r31.1.2.1, r31.1.2.2), false)
          else
           j86 ((y23.1, y23.2.1, y23.2.2), (y24.1, y24.2.1, y24.2.2), y25, (y26.1, y26.2.1, y26.2.2), y27, y28, y29, (r31.1.1, r31.1.2.1, r31.1.2.2), false)
         else
          K y23 y24 y25 y26 y27 y28) fun j89 =>
        bif decide (x22 < (x16.1.length : Int)) then
         bnd (g_parquetref12_Has (m + 1000) x18 x20 x21) fun r90 =>
         j89 ((x16.1, x16.2.1, x16.2.2), (x17.1, x17.2.1, x17.2.2), x18, (x19.1, x19.2.1, x19.2.2), x20, x21, x22, r90)
        else
         j89 ((x16.1, x16.2.1, x16.2.2), (x17.1, x17.2.1, x17.2.2), x18, (x19.1, x19.2.1, x19.2.2), x20, x21, x22, false)) :
    loopN F (m + 1000) (p, D, E, (R, srtL cf_57 A, S), a, b, b + 1) = v := by
  have hn := h.n; have hL := h.l
  obtain ⟨b1, b2⟩ := hb
  obtain ⟨a1, a2⟩ := ha
  have es : ∀ A : List Tr, (srtL cf_57 A).length = A.length := fun A => (srtL_prm cf_57 A).length_eq
  have hmem : ∀ x y : Int, x < y → g_parquetref12_Has (m + 1000) E x y = some (decide ((x, y) ∈ E)) := fun x y hxy => by rw [Has_f m E x y (by omega), has_mem hlt hxy]
  by_cases hm : (a, b) ∈ E
  · rw [if_pos hm] at hK
    refine loop_from (fun j => (p, D, E, (R, srtL cf_57 (A ++ rowE p E (a, b) j), S), a, b, b + 1 + (j : Int))) (cnt p (a, b)) ?_ (fun nx => ?_) (fun j hj nx hnx => ?_) _ (by unfold cnt; omega)
    · show _ = (p, D, E, (R, srtL cf_57 (A ++ []), S), a, b, b + 1 + ((0 : Nat) : Int))
      rw [List.append_nil, show b + 1 + ((0 : Nat) : Int) = b + 1 by omega]
    · rw [hF]
      simp only [meet]
      rw [bif_F (by unfold cnt; dsimp only; omega)]
      exact hK
    · have hr := rowE_len p E (a, b) j
      have hj' : j < p.1.length - (b.toNat + 1) := hj
      have et := rTri_f m p.1 a b (b + 1 + (j : Int)) (by omega)
      have em := midT m p.1 p.2.1 [a, b, b + 1 + (j : Int)] (by simp) (by simp) (by omega)
      rw [hF]
      simp only [meet]
      rw [bif_T (by omega), hmem a b hab, bnd_s, decide_eq_true hm, cT, et, bnd_s, em, bnd_s]
      rw [rowE_succ, ← List.append_assoc] at hnx
      have hB : (srtL cf_57 (A ++ rowE p E (a, b) j)).length ≤ 20050 := by rw [es, List.length_append]; omega
      have hno : ∀ t, okTri p E (a, b) (b + 1 + (j : Int)) = none → I nx p D E (R, srtL cf_57 (A ++ rowE p E (a, b) j), S) a b (b + 1 + (j : Int)) t false = v := by
        intro t ho
        rw [hI _ _ _ _ _ hB (fun h => by cases h), Bool.false_and, cF, w64_id (x := b + 1 + (j : Int) + 1) (by omega) (by omega), ← hnx, show b + 1 + ((j + 1 : Nat) : Int) = b + 1 + (j : Int) + 1 by omega]
        dsimp only at ho ⊢
        rw [ho]
        simp
      by_cases c1 : (triv p.1 a b (b + 1 + (j : Int))).2 = true
      · rw [bif_t c1]
        by_cases c2 : (midv p.1 p.2.1 [a, b, b + 1 + (j : Int)]).1 = 1
        · rw [bif_T c2, hmem a _ (by omega), bnd_s]
          by_cases c3 : (a, b + 1 + (j : Int)) ∈ E
          · rw [bif_T c3, hmem b _ (by omega), bnd_s]
            by_cases c4 : (b, b + 1 + (j : Int)) ∈ E
            · rw [decide_eq_true c4]
              refine (hI nx (srtL cf_57 (A ++ rowE p E (a, b) j)) (b + 1 + (j : Int)) (triv p.1 a b (b + 1 + (j : Int))).1 true hB (fun _ => triv_in c1)).trans ?_
              rw [Bool.true_and, emp_same c1, w64_id (x := b + 1 + (j : Int) + 1) (by omega) (by omega)]
              by_cases c5 : empV p.1 (triv p.1 a b (b + 1 + (j : Int))).1 = true
              · rw [bif_t c5, ← hnx, srt_insT, show b + 1 + ((j + 1 : Nat) : Int) = b + 1 + (j : Int) + 1 by omega]
                have ho : okTri p E (a, b) (b + 1 + (j : Int)) = some (triv p.1 a b (b + 1 + (j : Int))).1 := if_pos ⟨c3, c4, c1, c2, c5⟩
                dsimp only at ho ⊢
                rw [ho]
                rfl
              · rw [bif_f (by simpa using c5), ← hnx, show b + 1 + ((j + 1 : Nat) : Int) = b + 1 + (j : Int) + 1 by omega]
                have ho : okTri p E (a, b) (b + 1 + (j : Int)) = none := if_neg (fun x => c5 x.2.2.2.2)
                dsimp only at ho ⊢
                rw [ho]
                simp
            · rw [decide_eq_false c4]
              exact hno _ (if_neg (fun x => c4 x.2.1))
          · rw [bif_F c3]
            exact hno _ (if_neg (fun x => c3 x.1))
        · rw [bif_F c2]
          exact hno _ (if_neg (fun x => c2 x.2.2.2.1))
      · rw [bif_f (by simpa using c1)]
        exact hno _ (if_neg (fun x => c1 x.2.2.1))
  · rw [if_neg hm, List.append_nil] at hK
    rw [show m + 1000 = (m + 999) + 1 from rfl, loop_s, hF]
    simp only [meet]
    by_cases hc : b + 1 < (p.1.length : Int)
    · rw [bif_T hc]
      rw [show m + 999 + 1 = m + 1000 from rfl, hmem a b hab, bnd_s, decide_eq_false hm, cF]
      exact hK
    · rw [bif_F hc, cF]
      exact hK
end Go.Proofs.YtpkkcjmblocjdaaGreat.Pure
end
/- The reference's Make is the program's. -/
section
set_option linter.unusedVariables false
set_option linter.unusedSimpArgs false
namespace Go.Proofs.YtpkkcjmblocjdaaGreat.Pure
open Go.RowKit Go.Proofs.YtpkkcjmblocjdaaGreat.AM PL

def accB (p : Poly) (E : List Pt) (a j : Nat) : List Tr := (List.range' (a + 1) j).flatMap fun (b : Nat) => if ((a : Int), (b : Int)) ∈ E then rowF p E ((a : Int), (b : Int)) else []
def accA (p : Poly) (E : List Pt) (j : Nat) : List Tr := (List.range j).flatMap fun a => accB p E a (p.1.length - (a + 1))
theorem accB_succ (p : Poly) (E : List Pt) (a j : Nat) : accB p E a (j + 1) = accB p E a j ++ if ((a : Int), ((a + 1 + j : Nat) : Int)) ∈ E then rowF p E ((a : Int), ((a + 1 + j : Nat) : Int)) else [] := by
  unfold accB
  rw [List.range'_concat, List.flatMap_append, Nat.one_mul]
  simp
theorem accA_succ (p : Poly) (E : List Pt) (j : Nat) : accA p E (j + 1) = accA p E j ++ accB p E j (p.1.length - (j + 1)) := by
  unfold accA
  rw [List.range_succ, List.flatMap_append]
  simp
theorem accB_len {p : Poly} (hn : p.1.length ≤ 24) (E : List Pt) (a : Nat) : ∀ j, (accB p E a j).length ≤ 24 * j
  | 0 => by simp [accB]
  | j + 1 => by
    have ih := accB_len hn E a j
    rw [accB_succ, List.length_append]
    have : (if ((a : Int), ((a + 1 + j : Nat) : Int)) ∈ E then rowF p E ((a : Int), ((a + 1 + j : Nat) : Int)) else []).length ≤ 24 := by
      split
      · exact Nat.le_trans (rowE_len _ _ _ _) (by unfold cnt; omega)
      · simp
    omega
theorem accA_len {p : Poly} (hn : p.1.length ≤ 24) (E : List Pt) : ∀ j, j ≤ p.1.length → (accA p E j).length ≤ 576 * j
  | 0, _ => by simp [accA]
  | j + 1, hj => by
    have ih := accA_len hn E j (by omega)
    rw [accA_succ, List.length_append]
    have := accB_len hn E j (p.1.length - (j + 1))
    omega
def prB (E : List Pt) (a j : Nat) : List Pt := (List.range' (a + 1) j).filterMap fun (b : Nat) => if ((a : Int), (b : Int)) ∈ E then some ((a : Int), (b : Int)) else none
def prA (E : List Pt) (n j : Nat) : List Pt := (List.range j).flatMap fun a => prB E a (n - (a + 1))
theorem prB_succ (E : List Pt) (a j : Nat) : prB E a (j + 1) = prB E a j ++ if ((a : Int), ((a + 1 + j : Nat) : Int)) ∈ E then [((a : Int), ((a + 1 + j : Nat) : Int))] else [] := by
  unfold prB
  rw [List.range'_concat, List.filterMap_append, Nat.one_mul]
  congr 1
  have e : ∀ (g : Nat → Option Pt) (b : Nat) (r : List Pt), (match g b with
      | some x => [x]
      | none => []) = r → List.filterMap g [b] = r := fun g b r h => by
    rw [List.filterMap_cons, ← h]
    cases g b <;> rfl
  refine e _ _ _ ?_
  by_cases h : ((a : Int), ((a + 1 + j : Nat) : Int)) ∈ E
  · simp only [if_pos h]
  · simp only [if_neg h]
theorem prA_succ (E : List Pt) (n j : Nat) : prA E n (j + 1) = prA E n j ++ prB E j (n - (j + 1)) := by
  unfold prA
  rw [List.range_succ, List.flatMap_append]
  simp
theorem prB_mem (E : List Pt) (a : Nat) : ∀ j s, s ∈ prB E a j ↔ s ∈ E ∧ s.1 = (a : Int) ∧ (a : Int) < s.2 ∧ s.2 ≤ (a : Int) + (j : Int)
  | 0, s => by
    constructor
    · intro h
      simp [prB] at h
    · rintro ⟨_, _, h1, h2⟩
      omega
  | j + 1, s => by
    rw [prB_succ, List.mem_append, prB_mem E a j s]
    constructor
    · rintro (⟨h1, h2, h3, h4⟩ | h)
      · exact ⟨h1, h2, h3, by omega⟩
      · split at h
        · rename_i hm
          rw [List.mem_singleton] at h
          subst h
          exact ⟨hm, rfl, by dsimp only; omega, by dsimp only; omega⟩
        · cases h
    · rintro ⟨h1, h2, h3, h4⟩
      by_cases e : s.2 ≤ (a : Int) + (j : Int)
      · exact .inl ⟨h1, h2, h3, e⟩
      · have es : s = ((a : Int), ((a + 1 + j : Nat) : Int)) := Prod.ext h2 (by dsimp only; omega)
        rw [es] at h1
        rw [if_pos h1, es]
        exact .inr (List.mem_singleton.2 rfl)
theorem prB_srt (E : List Pt) (a : Nat) : ∀ j, (prB E a j).Pairwise ltS
  | 0 => by simp [prB]
  | j + 1 => by
    rw [prB_succ, List.pairwise_append]
    refine ⟨prB_srt E a j, by split <;> simp, fun x hx y hy => ?_⟩
    have h1 := (prB_mem E a j x).1 hx
    split at hy
    · rw [List.mem_singleton] at hy
      subst hy
      exact .inr ⟨h1.2.1, by dsimp only; omega⟩
    · cases hy
theorem prA_mem (E : List Pt) (n : Nat) : ∀ j s, s ∈ prA E n j → s ∈ E ∧ 0 ≤ s.1 ∧ s.1 < (j : Int)
  | 0, s, h => by simp [prA] at h
  | j + 1, s, h => by
    rw [prA_succ, List.mem_append] at h
    rcases h with h | h
    · have := prA_mem E n j s h
      exact ⟨this.1, this.2.1, by omega⟩
    · have := (prB_mem E j _ s).1 h
      exact ⟨this.1, by omega, by omega⟩
theorem prA_has (E : List Pt) (n : Nat) : ∀ j, j ≤ n → ∀ s ∈ E, 0 ≤ s.1 → s.1 < s.2 → s.2 < (n : Int) → s.1 < (j : Int) → s ∈ prA E n j
  | 0, _, s, _, h0, _, _, h => by omega
  | j + 1, hj, s, hs, h0, h1, h2, h3 => by
    rw [prA_succ, List.mem_append]
    by_cases e : s.1 < (j : Int)
    · exact .inl (prA_has E n j (by omega) s hs h0 h1 h2 e)
    · refine .inr ((prB_mem E j _ s).2 ⟨hs, by omega, by omega, by omega⟩)
theorem prA_srt (E : List Pt) (n : Nat) : ∀ j, (prA E n j).Pairwise ltS
  | 0 => by simp [prA]
  | j + 1 => by
    rw [prA_succ, List.pairwise_append]
    refine ⟨prA_srt E n j, prB_srt E j _, fun x hx y hy => ?_⟩
    have h1 := prA_mem E n j x hx
    have h2 := (prB_mem E j _ y).1 hy
    exact .inl (by omega)
theorem accB_pr (p : Poly) (E : List Pt) (a : Nat) : ∀ j, accB p E a j = (prB E a j).flatMap (rowF p E)
  | 0 => by simp [accB, prB]
  | j + 1 => by
    rw [accB_succ, prB_succ, List.flatMap_append, accB_pr p E a j]
    split <;> simp
theorem accA_pr (p : Poly) (E : List Pt) : ∀ j, accA p E j = (prA E p.1.length j).flatMap (rowF p E)
  | 0 => by simp [accA, prA]
  | j + 1 => by rw [accA_succ, prA_succ, List.flatMap_append, accA_pr p E j, accB_pr]
theorem acc_tri {p : Poly} {E : List Pt} (hs : E.Pairwise ltS) (ok : ∀ s ∈ E, oks p.1.length s ∧ s.1 < s.2) : accA p E p.1.length = triL p E := by
  rw [accA_pr]
  have e : prA E p.1.length p.1.length = E := by
    refine ordS.ext (prA_srt _ _ _) hs fun s => ⟨fun h => (prA_mem _ _ _ s h).1, fun h => ?_⟩
    obtain ⟨⟨⟨h1, h2⟩, ⟨h3, h4⟩⟩, h5⟩ := ok s h
    exact prA_has _ _ _ (Nat.le_refl _) s h h1 h5 h4 h2
  rw [e]
  rfl
theorem rMake_bad (m : Nat) {p : Poly} (h : chk p = false) : g_parquetref12_Make (m + 1000) p = some (([], [], []), 2) := by
  unfold g_parquetref12_Make b_parquetref12_Make
  rw [show g_parquetref12_Edges (m + 1000) (p.1, p.2.1, p.2.2) = _ from rEdges_bad m h, bnd_s]
  rfl
abbrev StB : Type := Poly × Mesh × List Pt × Mesh × Int × Int
abbrev StA : Type := Poly × Mesh × List Pt × Mesh × Int
theorem rmkA (m : Nat) {ρ : Type} {p : Poly} (h : Few p) {D : Mesh} {E : List Pt} {R S : List Pt} {v : Option ρ} {fin : Mesh → Option ρ} (hv : fin (R, srtL cf_57 (accA p E p.1.length), S) = v)
    {G : (StA → Option ρ) → StB → (StB → Option ρ) → Option ρ}
    (hG0 : ∀ next (A : List Tr) (a : Int) nx, 0 ≤ a → a < p.1.length → G next (p, D, E, (R, A, S), a, (p.1.length : Int)) nx = next (p, D, E, (R, A, S), a + 1))
    (hG : ∀ next (A : List Tr) (a b : Int) nx, A.length ≤ 20000 → inr a p.1.length → inr b p.1.length → a < b → nx (p, D, E, (R, srtL cf_57 (A ++ if (a, b) ∈ E then rowF p E (a, b) else []), S), a, b + 1) = v → G next (p, D, E, (R, srtL cf_57 A, S), a, b) nx = v)
    {F : StA → (StA → Option ρ) → Option ρ}
    (hF : ∀ (x3 : Poly) (x4 : Mesh) x5 (x6 : Mesh) x7 next2, F (x3, x4, x5, x6, x7) next2 = bif decide (x7 < (x3.1.length : Int)) then loopN (G next2) (m + 1000) ((x3.1, x3.2.1, x3.2.2), (x4.1, x4.2.1, x4.2.2), x5, (x6.1, x6.2.1, x6.2.2), x7, w64 (x7 + 1)) else fin (x6.1, x6.2.1, x6.2.2)) :
    loopN F (m + 1000) (p, D, E, (R, [], S), 0) = v := by
  have hn := h.n
  refine loop_from (fun i => (p, D, E, (R, srtL cf_57 (accA p E i), S), (i : Int))) p.1.length (by
    show _ = (p, D, E, (R, srtL cf_57 (accA p E 0), S), ((0 : Nat) : Int))
    rw [show accA p E 0 = [] from rfl, AM.srtL_nil]
    rfl) (fun next => ?_) (fun i hi next hnx => ?_) _ (by omega)
  · rw [hF, bif_F (by omega)]
    exact hv
  · rw [hF, bif_T (by omega), w64_id (x := (i : Int) + 1) (by omega) (by omega)]
    have hA := accA_len hn E i (by omega)
    refine loop_from (fun j => (p, D, E, (R, srtL cf_57 (accA p E i ++ accB p E i j), S), (i : Int), ((i + 1 + j : Nat) : Int))) (p.1.length - (i + 1)) (by
      show _ = (p, D, E, (R, srtL cf_57 (accA p E i ++ []), S), (i : Int), ((i + 1 + 0 : Nat) : Int))
      rw [List.append_nil]
      rfl) (fun nx => ?_) (fun j hj nx hn' => ?_) _ (by omega)
    · rw [show i + 1 + (p.1.length - (i + 1)) = p.1.length by omega, hG0 _ _ _ _ (by omega) (by omega), ← hnx, accA_succ]
      rfl
    · have hB := accB_len hn E i j
      refine hG _ _ _ _ _ (by rw [List.length_append]; omega) ⟨by omega, by omega⟩ ⟨by omega, by omega⟩ (by omega) ?_
      rw [accB_succ, ← List.append_assoc] at hn'
      exact hn'
theorem rMake_f (m : Nat) (hm : 25000 ≤ m) {p : Poly} (h : Few p) : g_parquetref12_Make (m + 1000) p = some (if good0 p = true then ((p.1, trisv p, segsv p), 0) else (([], [], []), 2)) := by
  unfold g_parquetref12_Make b_parquetref12_Make
  rw [show g_parquetref12_Edges (m + 1000) (p.1, p.2.1, p.2.2) = _ from rEdges_f m h, bnd_s]
  cases hg : good0 p with
  | false => rfl
  | true =>
    obtain ⟨hf, hne⟩ := good_fine h.sm hg
    have hn := h.n; have hL := h.l
    rw [if_pos rfl, if_pos rfl, bif_nT rfl, show g_parquetref12_segs (m + 1000) (p.1, p.2.1, p.2.2) = _ from rsegs_f m hf, bnd_s, gd_t (few_t (by omega))]
    have hlen := edgesv_len h
    have ok : ∀ s ∈ edgesv p, oks p.1.length s ∧ s.1 < s.2 := fun s hs => (edg_J hf).ok s ((edgesv_mem p s).1 hs)
    have hsr := edgesv_srt hf
    have ht : trisv p = srtL cf_57 (triL p (edgesv p)) := rfl
    rw [ht, ← acc_tri hsr ok]
    clear ht
    dsimp only
    generalize edgesv p = E at *
    refine Eq.trans (rmkA m (ρ := Mesh × Int) h (D := ([], [], [])) (E := E) (R := p.1) (S := segsv p) (v := some ((p.1, srtL cf_57 (accA p E p.1.length), segsv p), 0)) (fin := fun M => some (M, 0)) rfl (G := fun next2 =>
      (fun (x9, x10, x11, x12, x13, x14) next8 =>
            bif decide (x14 < (x9.1.length : Int)) then
             loopN (α := (((List (Int × Int)) × ((List (Int × Int)) × (List (Int × Int)))) × (((List (Int × Int)) × ((List (Int × (Int × Int))) × (List (Int × Int)))) × ((List (Int × Int)) × (((List (Int × Int)) × ((List (Int × (Int × Int))) × (List (Int × Int)))) × (Int × (Int × Int))))))) (fun (x16, x17, x18, x19, x20, x21, x22) next15 =>
              meet (α := (((List (Int × Int)) × ((List (Int × Int)) × (List (Int × Int)))) × (((List (Int × Int)) × ((List (Int × (Int × Int))) × (List (Int × Int)))) × ((List (Int × Int)) × (((List (Int × Int)) × ((List (Int × (Int × Int))) × (List (Int × Int)))) × (Int × (Int × (Int × Bool)))))))) (fun (y23, y24, y25, y26, y27, y28, y29, y30) =>
               bif y30 then
                bnd (g_parquetref12_Tri (m + 1000) y23.1 y27 y28 y29) fun r31 =>
                bnd (g_parquetref09_Middle (m + 1000) y23.1 y23.2.1 [y27, y28, y29]) fun r32 =>
                meet (α := (((List (Int × Int)) × ((List (Int × Int)) × (List (Int × Int)))) × (((List (Int × Int)) × ((List (Int × (Int × Int))) × (List (Int × Int)))) × ((List (Int × Int)) × (((List (Int × Int)) × ((List (Int × (Int × Int))) × (List (Int × Int)))) × (Int × (Int × (Int × ((Int × (Int × Int)) × Bool))))))))) (fun (y33, y34, y35, y36, y37, y38, y39, y40, y41) =>
                 loopN (α := (((List (Int × Int)) × ((List (Int × Int)) × (List (Int × Int)))) × (((List (Int × Int)) × ((List (Int × (Int × Int))) × (List (Int × Int)))) × ((List (Int × Int)) × (((List (Int × Int)) × ((List (Int × (Int × Int))) × (List (Int × Int)))) × (Int × (Int × (Int × ((Int × (Int × Int)) × (Bool × Int)))))))))) (fun (x43, x44, x45, x46, x47, x48, x49, x50, x51, x52) next42 =>
                  meet (α := (((List (Int × Int)) × ((List (Int × Int)) × (List (Int × Int)))) × (((List (Int × Int)) × ((List (Int × (Int × Int))) × (List (Int × Int)))) × ((List (Int × Int)) × (((List (Int × Int)) × ((List (Int × (Int × Int))) × (List (Int × Int)))) × (Int × (Int × (Int × ((Int × (Int × Int)) × (Bool × (Int × Bool))))))))))) (fun (y53, y54, y55, y56, y57, y58, y59, y60, y61, y62, y63) =>
                   bif y63 then
                    meet (α := (((List (Int × Int)) × ((List (Int × Int)) × (List (Int × Int)))) × (((List (Int × Int)) × ((List (Int × (Int × Int))) × (List (Int × Int)))) × ((List (Int × Int)) × (((List (Int × Int)) × ((List (Int × (Int × Int))) × (List (Int × Int)))) × (Int × (Int × (Int × ((Int × (Int × Int)) × (Bool × Int)))))))))) (fun (y64, y65, y66, y67, y68, y69, y70, y71, y72, y73) =>
                     next42 ((y64.1, y64.2.1, y64.2.2), (y65.1, y65.2.1, y65.2.2), y66, (y67.1, y67.2.1, y67.2.2), y68, y69, y70, (y71.1, y71.2.1, y71.2.2), y72, w64 (y73 + 1))) fun j74 =>
                    bif decide (y62 = y57) then
                     j74 ((y53.1, y53.2.1, y53.2.2), (y54.1, y54.2.1, y54.2.2), y55, (y56.1, y56.2.1, y56.2.2), y57, y58, y59, (y60.1, y60.2.1, y60.2.2), true, y62)
                    else
                     bif decide (y62 = y58) then
                      j74 ((y53.1, y53.2.1, y53.2.2), (y54.1, y54.2.1, y54.2.2), y55, (y56.1, y56.2.1, y56.2.2), y57, y58, y59, (y60.1, y60.2.1, y60.2.2), true, y62)
                     else
                      bif decide (y62 = y59) then
                       j74 ((y53.1, y53.2.1, y53.2.2), (y54.1, y54.2.1, y54.2.2), y55, (y56.1, y56.2.1, y56.2.2), y57, y58, y59, (y60.1, y60.2.1, y60.2.2), true, y62)
                      else
                       gd (inb y62 y53.1.length) <|
                       bnd (g_parquetref12_In (m + 1000) y53.1 (y60.1, y60.2.1, y60.2.2) ((rdD (0, 0) y53.1 y62).1, (rdD (0, 0) y53.1 y62).2)) fun r75 =>
                       j74 ((y53.1, y53.2.1, y53.2.2), (y54.1, y54.2.1, y54.2.2), y55, (y56.1, y56.2.1, y56.2.2), y57, y58, y59, (y60.1, y60.2.1, y60.2.2), !r75, y62)
                   else
                    meet (α := (((List (Int × Int)) × ((List (Int × Int)) × (List (Int × Int)))) × (((List (Int × Int)) × ((List (Int × (Int × Int))) × (List (Int × Int)))) × ((List (Int × Int)) × (((List (Int × Int)) × ((List (Int × (Int × Int))) × (List (Int × Int)))) × (Int × (Int × Int))))))) (fun (y76, y77, y78, y79, y80, y81, y82) =>
                     next15 ((y76.1, y76.2.1, y76.2.2), (y77.1, y77.2.1, y77.2.2), y78, (y79.1, y79.2.1, y79.2.2), y80, y81, w64 (y82 + 1))) fun j83 =>
                    bif y61 then
                     bnd (g_parquetref12_Put (m + 1000) y56.2.1 (y60.1, y60.2.1, y60.2.2)) fun r84 =>
                     j83 ((y53.1, y53.2.1, y53.2.2), (y54.1, y54.2.1, y54.2.2), y55, (y56.1, r84, y56.2.2), y57, y58, y59)
                    else
                     j83 ((y53.1, y53.2.1, y53.2.2), (y54.1, y54.2.1, y54.2.2), y55, (y56.1, y56.2.1, y56.2.2), y57, y58, y59)) fun j85 =>
                  bif decide (x52 < (x43.1.length : Int)) then
                   j85 ((x43.1, x43.2.1, x43.2.2), (x44.1, x44.2.1, x44.2.2), x45, (x46.1, x46.2.1, x46.2.2), x47, x48, x49, (x50.1, x50.2.1, x50.2.2), x51, x52, x51)
                  else
                   j85 ((x43.1, x43.2.1, x43.2.2), (x44.1, x44.2.1, x44.2.2), x45, (x46.1, x46.2.1, x46.2.2), x47, x48, x49, (x50.1, x50.2.1, x50.2.2), x51, x52, false)) (m + 1000) ((y33.1, y33.2.1, y33.2.2), (y34.1, y34.2.1, y34.2.2), y35, (y36.1, y36.2.1, y36.2.2), y37, y38, y39, (y40.1, y40.2.1, y40.2.2), y41, 0)) fun j86 =>
                bif r31.2 then
                 bif decide (r32.1 = 1) then
                  bnd (g_parquetref12_Has (m + 1000) y25 y27 y29) fun r87 =>
                  bif r87 then
                   bnd (g_parquetref12_Has (m + 1000) y25 y28 y29) fun r88 =>
                   j86 ((y23.1, y23.2.1, y23.2.2), (y24.1, y24.2.1, y24.2.2), y25, (y26.1, y26.2.1, y26.2.2), y27, y28, y29, (r31.1.1, r31.1.2.1, r31.1.2.2), r88)
                  else
                   j86 ((y23.1, y23.2.1, y23.2.2), (y24.1, y24.2.1, y24.2.2), y25, (y26.1, y26.2.1, y26.2.2), y27, y28, y29, (r31.1.1, r31.1.2.1, r31.1.2.2), false)
                 else
                  j86 ((y23.1, y23.2.1, y23.2.2), (y24.1, y24.2.1, y24.2.2), y25, (y26.1, y26.2.1, y26.2.2), y27, y28, y29, (r31.1.1, r31.1.2.1, r31.1.2.2), false)
                else
                 j86 ((y23.1, y23.2.1, y23.2.2), (y24.1, y24.2.1, y24.2.2), y25, (y26.1, y26.2.1, y26.2.2), y27, y28, y29, (r31.1.1, r31.1.2.1, r31.1.2.2), false)
               else
                next8 ((y23.1, y23.2.1, y23.2.2), (y24.1, y24.2.1, y24.2.2), y25, (y26.1, y26.2.1, y26.2.2), y27, w64 (y28 + 1))) fun j89 =>
              bif decide (x22 < (x16.1.length : Int)) then
               bnd (g_parquetref12_Has (m + 1000) x18 x20 x21) fun r90 =>
               j89 ((x16.1, x16.2.1, x16.2.2), (x17.1, x17.2.1, x17.2.2), x18, (x19.1, x19.2.1, x19.2.2), x20, x21, x22, r90)
              else
               j89 ((x16.1, x16.2.1, x16.2.2), (x17.1, x17.2.1, x17.2.2), x18, (x19.1, x19.2.1, x19.2.2), x20, x21, x22, false)) (m + 1000) ((x9.1, x9.2.1, x9.2.2), (x10.1, x10.2.1, x10.2.2), x11, (x12.1, x12.2.1, x12.2.2), x13, x14, w64 (x14 + 1))
            else
             next2 ((x9.1, x9.2.1, x9.2.2), (x10.1, x10.2.1, x10.2.2), x11, (x12.1, x12.2.1, x12.2.2), w64 (x13 + 1)))) ?hG0 ?hG (fun _ _ _ _ _ _ => rfl)) rfl
    case hG0 =>
      intro next A a nx h0 h1
      dsimp only
      rw [bif_F (by omega), w64_id (x := a + 1) (by omega) (by omega)]
    case hG =>
      intro next A a b nx hA ha hb hab hnx
      obtain ⟨a1, a2⟩ := ha
      obtain ⟨b1, b2⟩ := hb
      dsimp only
      rw [bif_T (by omega), w64_id (x := b + 1) (by omega) (by omega)]
      refine rmkC m h (D := ([], [], [])) (E := E) (by omega) (fun s hs => (ok s hs).2) ⟨a1, a2⟩ ⟨b1, b2⟩ hab A hA (R := p.1) (S := segsv p) (K := fun y23 y24 y25 y26 y27 y28 => nx ((y23.1, y23.2.1, y23.2.2), (y24.1, y24.2.1, y24.2.2), y25, (y26.1, y26.2.1, y26.2.2), y27, w64 (y28 + 1))) (by dsimp only; rw [w64_id (x := b + 1) (by omega) (by omega)]; exact hnx) (I := fun next15 y33 y34 y35 y36 y37 y38 y39 y40 y41 =>
                   loopN (α := (((List (Int × Int)) × ((List (Int × Int)) × (List (Int × Int)))) × (((List (Int × Int)) × ((List (Int × (Int × Int))) × (List (Int × Int)))) × ((List (Int × Int)) × (((List (Int × Int)) × ((List (Int × (Int × Int))) × (List (Int × Int)))) × (Int × (Int × (Int × ((Int × (Int × Int)) × (Bool × Int)))))))))) (fun (x43, x44, x45, x46, x47, x48, x49, x50, x51, x52) next42 =>
                    meet (α := (((List (Int × Int)) × ((List (Int × Int)) × (List (Int × Int)))) × (((List (Int × Int)) × ((List (Int × (Int × Int))) × (List (Int × Int)))) × ((List (Int × Int)) × (((List (Int × Int)) × ((List (Int × (Int × Int))) × (List (Int × Int)))) × (Int × (Int × (Int × ((Int × (Int × Int)) × (Bool × (Int × Bool))))))))))) (fun (y53, y54, y55, y56, y57, y58, y59, y60, y61, y62, y63) =>
                     bif y63 then
                      meet (α := (((List (Int × Int)) × ((List (Int × Int)) × (List (Int × Int)))) × (((List (Int × Int)) × ((List (Int × (Int × Int))) × (List (Int × Int)))) × ((List (Int × Int)) × (((List (Int × Int)) × ((List (Int × (Int × Int))) × (List (Int × Int)))) × (Int × (Int × (Int × ((Int × (Int × Int)) × (Bool × Int)))))))))) (fun (y64, y65, y66, y67, y68, y69, y70, y71, y72, y73) =>
                       next42 ((y64.1, y64.2.1, y64.2.2), (y65.1, y65.2.1, y65.2.2), y66, (y67.1, y67.2.1, y67.2.2), y68, y69, y70, (y71.1, y71.2.1, y71.2.2), y72, w64 (y73 + 1))) fun j74 =>
                      bif decide (y62 = y57) then
                       j74 ((y53.1, y53.2.1, y53.2.2), (y54.1, y54.2.1, y54.2.2), y55, (y56.1, y56.2.1, y56.2.2), y57, y58, y59, (y60.1, y60.2.1, y60.2.2), true, y62)
                      else
                       bif decide (y62 = y58) then
                        j74 ((y53.1, y53.2.1, y53.2.2), (y54.1, y54.2.1, y54.2.2), y55, (y56.1, y56.2.1, y56.2.2), y57, y58, y59, (y60.1, y60.2.1, y60.2.2), true, y62)
                       else
                        bif decide (y62 = y59) then
                         j74 ((y53.1, y53.2.1, y53.2.2), (y54.1, y54.2.1, y54.2.2), y55, (y56.1, y56.2.1, y56.2.2), y57, y58, y59, (y60.1, y60.2.1, y60.2.2), true, y62)
                        else
                         gd (inb y62 y53.1.length) <|
                         bnd (g_parquetref12_In (m + 1000) y53.1 (y60.1, y60.2.1, y60.2.2) ((rdD (0, 0) y53.1 y62).1, (rdD (0, 0) y53.1 y62).2)) fun r75 =>
                         j74 ((y53.1, y53.2.1, y53.2.2), (y54.1, y54.2.1, y54.2.2), y55, (y56.1, y56.2.1, y56.2.2), y57, y58, y59, (y60.1, y60.2.1, y60.2.2), !r75, y62)
                     else
                      meet (α := (((List (Int × Int)) × ((List (Int × Int)) × (List (Int × Int)))) × (((List (Int × Int)) × ((List (Int × (Int × Int))) × (List (Int × Int)))) × ((List (Int × Int)) × (((List (Int × Int)) × ((List (Int × (Int × Int))) × (List (Int × Int)))) × (Int × (Int × Int))))))) (fun (y76, y77, y78, y79, y80, y81, y82) =>
                       next15 ((y76.1, y76.2.1, y76.2.2), (y77.1, y77.2.1, y77.2.2), y78, (y79.1, y79.2.1, y79.2.2), y80, y81, w64 (y82 + 1))) fun j83 =>
                      bif y61 then
                       bnd (g_parquetref12_Put (m + 1000) y56.2.1 (y60.1, y60.2.1, y60.2.2)) fun r84 =>
                       j83 ((y53.1, y53.2.1, y53.2.2), (y54.1, y54.2.1, y54.2.2), y55, (y56.1, r84, y56.2.2), y57, y58, y59)
                      else
                       j83 ((y53.1, y53.2.1, y53.2.2), (y54.1, y54.2.1, y54.2.2), y55, (y56.1, y56.2.1, y56.2.2), y57, y58, y59)) fun j85 =>
                    bif decide (x52 < (x43.1.length : Int)) then
                     j85 ((x43.1, x43.2.1, x43.2.2), (x44.1, x44.2.1, x44.2.2), x45, (x46.1, x46.2.1, x46.2.2), x47, x48, x49, (x50.1, x50.2.1, x50.2.2), x51, x52, x51)
                    else
                     j85 ((x43.1, x43.2.1, x43.2.2), (x44.1, x44.2.1, x44.2.2), x45, (x46.1, x46.2.1, x46.2.2), x47, x48, x49, (x50.1, x50.2.1, x50.2.2), x51, x52, false)) (m + 1000) ((y33.1, y33.2.1, y33.2.2), (y34.1, y34.2.1, y34.2.2), y35, (y36.1, y36.2.1, y36.2.2), y37, y38, y39, (y40.1, y40.2.1, y40.2.2), y41, 0)) ?hI (fun _ _ _ _ _ _ _ _ => rfl)
      intro next15 B c t okk hB hin
      refine (rmkI m (p := p) (D := ([], [], [])) (M := (p.1, B, segsv p)) (E := E) (a := a) (b := b) (c := c) (t := t) (by omega) okk hin (J := fun y53 y54 y55 y56 y57 y58 y59 y60 y61 => bif y61 then
               bnd (g_parquetref12_Put (m + 1000) y56.2.1 (y60.1, y60.2.1, y60.2.2)) fun r84 =>
               next15 ((y53.1, y53.2.1, y53.2.2), (y54.1, y54.2.1, y54.2.2), y55, (y56.1, r84, y56.2.2), y57, y58, w64 (y59 + 1))
              else
               next15 ((y53.1, y53.2.1, y53.2.2), (y54.1, y54.2.1, y54.2.2), y55, (y56.1, y56.2.1, y56.2.2), y57, y58, w64 (y59 + 1))) (fun _ _ _ _ _ _ _ _ _ _ _ => rfl)).trans ?_
      dsimp only
      rw [show g_parquetref12_Put (m + 1000) B (t.1, t.2.1, t.2.2) = _ from Put_f m B t (by omega) (by omega)]
      cases okk && emp3 p.1 a b c t p.1.length <;> rfl
end Go.Proofs.YtpkkcjmblocjdaaGreat.Pure
end
