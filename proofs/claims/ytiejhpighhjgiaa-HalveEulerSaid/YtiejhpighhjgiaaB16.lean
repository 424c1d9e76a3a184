/- Loops of rim edges: what the document's answer comes to. -/
import Derived.Test.YtiejhpighhjgiaaB15
set_option linter.unusedVariables false
set_option linter.unusedSimpArgs false
set_option linter.unusedSectionVars false
namespace Go.Proofs.Ytiejhpighhjgiaa.Pure
open Go.RowKit Go.Proofs.Ytiejhpighhjgiaa.AM

/-- On from an edge, as long as there is one that goes on. -/
inductive Fol : (Pt → Prop) → Pt → List Int → (Pt → Prop) → Prop
  | stop {S : Pt → Prop} {e : Pt} : (∀ x, S x → x ≠ e → x.1 ≠ e.2) → Fol S e [e.1] (fun x => S x ∧ x ≠ e)
  | go {S S' : Pt → Prop} {e e' : Pt} {r : List Int} : S e' → e' ≠ e → e'.1 = e.2 → Fol (fun x => S x ∧ x ≠ e) e' r S' → Fol S e (e.1 :: r) S'
/-- All loops, each from the least place on. -/
inductive Rr : (Pt → Prop) → List (List Int) → Prop
  | nil {S : Pt → Prop} : (∀ x, ¬S x) → Rr S []
  | cons {S S' : Pt → Prop} {e : Pt} {r : List Int} {rs : List (List Int)} : S e → (∀ x, S x → e.1 ≤ x.1) → Fol S e r S' → Rr S' rs → Rr S (r :: rs)

def isRim (l : List Pt) (e : Pt) : Bool := !(decide (rv e ∈ l))
def rimL (l : List Pt) : List Pt := l.filter (isRim l)
def rimv (f : List (List Int)) : List Pt := rimL (alls f)
def Once (l : List Pt) : Prop := (l.map (·.1)).Nodup
instance (l : List Pt) : Decidable (Once l) := inferInstanceAs (Decidable (List.Nodup _))
theorem mem_any (l : List Pt) (e : Pt) : (List.range l.length).any (fun k => decide (rdD (0, 0) l (k : Int) = e)) = decide (e ∈ l) := by
  rw [Bool.eq_iff_iff, List.any_eq_true, decide_eq_true_eq]
  constructor
  · rintro ⟨j, hj, h⟩
    rw [List.mem_range] at hj
    rw [decide_eq_true_eq, rd_get _ _ _ hj] at h
    rw [← h]
    exact List.getElem_mem _
  · intro h
    obtain ⟨j, hj, h⟩ := List.getElem_of_mem h
    exact ⟨j, List.mem_range.2 hj, by rw [decide_eq_true_eq, rd_get _ _ _ hj]; exact h⟩
theorem dup_any (l : List Pt) : (List.range l.length).any (fun i => (List.range i).any fun k => decide ((rdD (0, 0) l (i : Int)).1 = (rdD (0, 0) l (k : Int)).1)) = !(decide (Once l)) := by
  rw [Bool.eq_iff_iff, List.any_eq_true, Bool.not_eq_true', decide_eq_false_iff_not]
  constructor
  · rintro ⟨i, hi, h⟩ hn
    rw [List.mem_range] at hi
    rw [List.any_eq_true] at h
    obtain ⟨k, hk, h⟩ := h
    rw [List.mem_range] at hk
    rw [decide_eq_true_eq, rd_get _ _ _ (by omega), rd_get _ _ _ (by omega)] at h
    have := List.pairwise_iff_getElem.1 hn k i (by simp; omega) (by simp; omega) hk
    simp only [List.getElem_map] at this
    exact this h.symm
  · intro hn
    apply Decidable.byContradiction
    intro hno
    apply hn
    refine List.pairwise_iff_getElem.2 fun k i hk hi hlt h => hno ?_
    simp only [List.getElem_map, List.length_map] at h hk hi
    refine ⟨i, List.mem_range.2 hi, ?_⟩
    rw [List.any_eq_true]
    exact ⟨k, List.mem_range.2 hlt, by rw [decide_eq_true_eq, rd_get _ _ _ (by omega), rd_get _ _ _ (by omega)]; exact h.symm⟩
/-- Who is left. -/
def un (l : List Pt) (u : List Bool) : Pt → Prop := fun x => ∃ i, ∃ h : i < l.length, u[i]? = some false ∧ l[i] = x
def cnt (u : List Bool) : Nat := (u.filter (!·)).length
theorem cnt_set : ∀ {u : List Bool} {i : Nat}, u[i]? = some false → cnt (u.set i true) + 1 = cnt u
  | [], i, h => by simp at h
  | b :: u, 0, h => by
    simp only [List.getElem?_cons_zero, Option.some.injEq] at h
    subst h
    simp [cnt]
  | b :: u, i + 1, h => by
    have ih := cnt_set (u := u) (i := i) (by simpa using h)
    unfold cnt at ih ⊢
    rw [List.set_cons_succ]
    cases b <;> simp [List.filter_cons] <;> omega
theorem cnt_pos {u : List Bool} {i : Nat} (h : u[i]? = some false) : 0 < cnt u := by have := cnt_set h; omega
theorem un_set {l : List Pt} (hn : l.Nodup) {u : List Bool} (hl : u.length = l.length) {b : Nat} (hb : b < l.length) : un l (u.set b true) = fun x => un l u x ∧ x ≠ l[b] := by
  funext x
  apply propext
  constructor
  · rintro ⟨i, hi, h, rfl⟩
    by_cases e : b = i
    · subst e
      rw [List.getElem?_set_self (by omega)] at h
      cases h
    · rw [List.getElem?_set_ne e] at h
      refine ⟨⟨i, hi, h, rfl⟩, fun h2 => ?_⟩
      rcases Nat.lt_or_gt_of_ne e with hlt | hgt
      · exact List.pairwise_iff_getElem.1 hn b i hb hi hlt h2.symm
      · exact List.pairwise_iff_getElem.1 hn i b hi hb hgt h2
  · rintro ⟨⟨i, hi, h, rfl⟩, hne⟩
    have e : b ≠ i := by rintro rfl; exact hne rfl
    exact ⟨i, hi, by rw [List.getElem?_set_ne e]; exact h, rfl⟩
theorem rd_false {u : List Bool} {i : Nat} (h : i < u.length) : rdD false u (i : Int) = false ↔ u[i]? = some false := by
  rw [rd_get _ _ _ h, List.getElem?_eq_getElem h]
  simp
theorem nodup_filter {α : Type} {l : List α} (q : α → Bool) (h : l.Nodup) : (l.filter q).Nodup := h.sublist (List.filter_sublist)
/-- What a row's first best place comes to. -/
def Best (l : List Pt) (u : List Bool) (n : Nat) (b : Int) : Prop :=
  (b = -1 ∧ ∀ i, i < n → u[i]? ≠ some false) ∨ ∃ j : Nat, b = (j : Int) ∧ j < n ∧ u[j]? = some false ∧ ∀ i (hi : i < l.length) (hj : j < l.length), i < n → u[i]? = some false → l[j].1 ≤ l[i].1
def Nxt (l : List Pt) (u : List Bool) (t : Int) (n : Nat) (b : Int) : Prop :=
  (b = -1 ∧ ∀ i (hi : i < l.length), i < n → u[i]? = some false → l[i].1 ≠ t) ∨ ∃ j : Nat, ∃ hj : j < l.length, b = (j : Int) ∧ j < n ∧ u[j]? = some false ∧ l[j].1 = t
/-- A loop that stops with one answer where `b` says so, and whatever comes behind. -/
theorem loop_anyE {α ρ : Type} {f : α → (α → Option ρ) → Option ρ} {Q : ρ → Prop} (st : Nat → α) (n : Nat) (b : Nat → Bool) (v : Option ρ) {s0 : α} (hs0 : s0 = st 0) (h0 : (∀ i, i < n → b i = false) → ∀ next, ∃ r, f (st n) next = some r ∧ Q r) (hv : (∃ i, i < n ∧ b i = true) → ∃ r, v = some r ∧ Q r) (hs : ∀ i, i < n → ∀ next, f (st i) next = bif b i then v else next (st (i + 1))) (q : Nat) (hq : n < q) :
    ∃ r, loopN f q s0 = some r ∧ Q r := by
  rw [hs0]
  refine loop_ex (fun k s => ∃ i, i ≤ n ∧ k = n - i ∧ s = st i ∧ ∀ j, j < i → b j = false) Q ?_ q n _ ⟨0, Nat.zero_le _, rfl, rfl, fun j hj => by omega⟩ hq
  rintro k s ⟨i, hi, rfl, rfl, hno⟩ next hn
  by_cases e : i = n
  · subst e
    exact h0 hno next
  · rw [hs i (by omega)]
    cases hb : b i with
    | true => exact hv ⟨i, by omega, hb⟩
    | false =>
      rw [cF]
      refine hn (n - (i + 1)) _ (by omega) ⟨i + 1, by omega, rfl, rfl, fun j hj => ?_⟩
      by_cases c : j = i
      · subst c; exact hb
      · exact hno j (by omega)
theorem rims_f (m : Nat) (n : Int) (f : List (List Int)) (hl : f.length ≤ 900) (hc : ∀ c ∈ f, c.length ≤ 900) (ht : (alls f).length ≤ 900) :
    ∃ r, g_parquetref11_Rims (m + 1000) n f = some r ∧ ((chk n f ≠ 0 ∧ r = ([], chk n f)) ∨ (chk n f = 0 ∧ ¬Once (rimv f) ∧ r = ([], 81)) ∨ (chk n f = 0 ∧ Once (rimv f) ∧ r.2 = 0 ∧ Rr (· ∈ rimv f) r.1)) := by
  unfold g_parquetref11_Rims b_parquetref11_Rims
  simp only [meet]
  rw [rCheck_f m n f hl hc ht, bnd_s]
  by_cases hch : chk n f = 0
  case neg =>
    rw [bif_nF hch]
    exact ⟨_, rfl, .inl ⟨hch, rfl⟩⟩
  rw [bif_nT hch, rAll_f m f hl hc ht, bnd_s]
  have F := fine_of hch
  have hnd : (rimv f).Nodup := nodup_filter _ F.once
  have hrl : (rimv f).length ≤ (alls f).length := List.length_filter_le _ _
  -- the rim
  refine loop_ex (fun q s => ∃ i : Nat, i ≤ (alls f).length ∧ q = (alls f).length - i ∧ s = (alls f, ((alls f).take i).filter (isRim (alls f)), (i : Int))) _ ?_ (m + 1000) (alls f).length _ ⟨0, Nat.zero_le _, rfl, rfl⟩ (by omega)
  rintro q s ⟨i, hi, rfl, rfl⟩ next hn
  dsimp only
  by_cases e : i < (alls f).length
  · rw [bif_T (by omega)]
    refine loop_ex (fun q s => ∃ k : Nat, k ≤ (alls f).length ∧ q = (alls f).length - k ∧ s = (alls f, ((alls f).take i).filter (isRim (alls f)), (i : Int), (List.range k).any (fun k => decide (rdD (0, 0) (alls f) (k : Int) = rv (alls f)[i])), (k : Int))) _ ?_ (m + 1000) (alls f).length _ ⟨0, Nat.zero_le _, rfl, rfl⟩ (by omega)
    rintro q s ⟨k, hk, rfl, rfl⟩ next' hn'
    dsimp only
    by_cases e' : k < (alls f).length
    · have hstep := fun (b : Bool) (hb : b = ((List.range k).any (fun k => decide (rdD (0, 0) (alls f) (k : Int) = rv (alls f)[i])) || decide (rdD (0, 0) (alls f) (k : Int) = rv (alls f)[i]))) => hn' ((alls f).length - (k + 1)) (alls f, ((alls f).take i).filter (isRim (alls f)), (i : Int), b, ((k + 1 : Nat) : Int)) (by omega) ⟨k + 1, by omega, rfl, by rw [hb, List.range_succ, List.any_append]; simp⟩
      rw [bif_T (by omega), w64_id (by omega) (by omega)]
      cases ho : (List.range k).any (fun k => decide (rdD (0, 0) (alls f) (k : Int) = rv (alls f)[i])) with
      | true =>
        rw [cT]
        exact hstep true (by rw [ho]; rfl)
      | false =>
        rw [cF, gd_t (inb_t ⟨by omega, by omega⟩), gd_t (inb_t ⟨by omega, by omega⟩), rd_get _ _ i e]
        by_cases c1 : (rdD (0, 0) (alls f) (k : Int)).1 = ((alls f)[i]).2
        · rw [bif_T c1, gd_t (inb_t ⟨by omega, by omega⟩), gd_t (inb_t ⟨by omega, by omega⟩)]
          refine hstep _ ?_
          rw [ho, Bool.false_or, decide_eq_decide]
          constructor
          · intro h; exact Prod.ext c1 h
          · intro h; rw [h]; rfl
        · rw [bif_F c1]
          refine hstep _ ?_
          rw [ho, Bool.false_or, decide_eq_false (fun h => c1 (by rw [h]; rfl))]
    · obtain rfl : k = (alls f).length := by omega
      have hfl : (((alls f).take i).filter (isRim (alls f))).length ≤ i := Nat.le_trans (List.length_filter_le _ _) (by rw [List.length_take]; omega)
      have hnext : ∀ l', l' = ((alls f).take (i + 1)).filter (isRim (alls f)) → _ := fun l' hl' => hn ((alls f).length - (i + 1)) (alls f, l', ((i + 1 : Nat) : Int)) (by omega) ⟨i + 1, by omega, rfl, by rw [hl']⟩
      rw [bif_F (by omega), mem_any, w64_id (by omega) (by omega)]
      by_cases c1 : rv (alls f)[i] ∈ alls f
      · rw [bif_nT c1]
        refine hnext _ ?_
        rw [take_snoc _ _ e, List.filter_append]
        simp [isRim, c1]
      · rw [bif_nF c1, gd_t (inb_t ⟨by omega, by omega⟩), gd_t (few_t (by omega)), rd_get _ _ i e]
        refine hnext _ ?_
        rw [take_snoc _ _ e, List.filter_append]
        simp [isRim, c1]
  obtain rfl : i = (alls f).length := by omega
  rw [List.take_length, show (alls f).filter (isRim (alls f)) = rimv f from rfl, bif_F (by omega)]
  clear hn next
  -- two from one place
  refine loop_anyE (fun i => (rimv f, (i : Int))) (rimv f).length (fun i => (List.range i).any fun k => decide ((rdD (0, 0) (rimv f) (i : Int)).1 = (rdD (0, 0) (rimv f) (k : Int)).1)) (some ([], 81)) rfl ?_ ?_ ?_ (m + 1000) (by omega)
  · intro hno next
    have hon : Once (rimv f) := by
      have := dup_any (rimv f)
      rw [List.any_eq_false.2 (fun x hx => by rw [hno x (List.mem_range.1 hx)]; decide)] at this
      simpa using this.symm
    have hres : ∀ rs, Rr (· ∈ rimv f) rs → (((chk n f ≠ 0 ∧ (rs, (0 : Int)) = ([], chk n f)) ∨ (chk n f = 0 ∧ ¬Once (rimv f) ∧ (rs, (0 : Int)) = ([], 81)) ∨ (chk n f = 0 ∧ Once (rimv f) ∧ (rs, (0 : Int)).2 = 0 ∧ Rr (· ∈ rimv f) (rs, (0 : Int)).1))) := fun rs h => .inr (.inr ⟨hch, hon, rfl, h⟩)
    dsimp only
    rw [bif_F (by omega), gd_T (by omega), gd_t (show fewI ((rimv f).length : Int) = true from few_t (by show (rimv f).length < _; omega))]
    generalize hQ : (fun r : List (List Int) × Int => ((chk n f ≠ 0 ∧ r = ([], chk n f)) ∨ (chk n f = 0 ∧ ¬Once (rimv f) ∧ r = ([], 81)) ∨ (chk n f = 0 ∧ Once (rimv f) ∧ r.2 = 0 ∧ Rr (· ∈ rimv f) r.1))) = Q
    have hres' : ∀ rs, Rr (· ∈ rimv f) rs → Q (rs, 0) := fun rs h => by rw [← hQ]; exact hres rs h
    show ∃ r, _ = some r ∧ (fun r : List (List Int) × Int => ((chk n f ≠ 0 ∧ r = ([], chk n f)) ∨ (chk n f = 0 ∧ ¬Once (rimv f) ∧ r = ([], 81)) ∨ (chk n f = 0 ∧ Once (rimv f) ∧ r.2 = 0 ∧ Rr (· ∈ rimv f) r.1))) r
    rw [hQ]
    clear hQ hres hno next
    have hinit : un (rimv f) (List.replicate (rimv f).length false) = (· ∈ rimv f) := by
      funext x
      apply propext
      constructor
      · rintro ⟨i, hi, _, rfl⟩; exact List.getElem_mem _
      · intro hx
        obtain ⟨i, hi, rfl⟩ := List.getElem_of_mem hx
        exact ⟨i, hi, by simp [hi], rfl⟩
    have hone : ∀ {i j : Nat} (hi : i < (rimv f).length) (hj : j < (rimv f).length), ((rimv f)[i]).1 = ((rimv f)[j]).1 → i = j := by
      intro i j hi hj he
      rcases Nat.lt_trichotomy i j with hlt | he' | hgt
      · have := List.pairwise_iff_getElem.1 hon i j (by simpa using hi) (by simpa using hj) hlt
        simp only [List.getElem_map] at this
        exact absurd he this
      · exact he'
      · have := List.pairwise_iff_getElem.1 hon j i (by simpa using hj) (by simpa using hi) hgt
        simp only [List.getElem_map] at this
        exact absurd he.symm this
    have hcntl : ∀ u : List Bool, u.length = (rimv f).length → cnt u ≤ (rimv f).length := fun u hu => by rw [← hu]; exact List.length_filter_le _ _
    generalize hR : rimv f = l at *
    refine loop_ex (fun q s => ∃ (out : List (List Int)) (u : List Bool), u.length = l.length ∧ out.length + cnt u ≤ l.length ∧ q = cnt u ∧ s = (l, out, u) ∧ ∀ rs, Rr (un l u) rs → Rr (· ∈ l) (out ++ rs)) Q ?_ (m + 1000) (cnt (List.replicate l.length false)) _ ⟨[], List.replicate l.length false, by simp, by have := hcntl (List.replicate l.length false) (by simp); simp; omega, rfl, rfl, fun rs h => by rw [hinit] at h; exact h⟩ (by have := hcntl (List.replicate l.length false) (by simp); omega)
    rintro q s ⟨out, u, hul, hol, rfl, rfl, hC⟩ next hn
    dsimp only
    -- the best
    refine loop_ex (fun q s => ∃ (i : Nat) (b : Int), i ≤ l.length ∧ q = l.length - i ∧ s = (l, out, u, b, (i : Int)) ∧ Best l u i b) Q ?_ (m + 1000) l.length _ ⟨0, -1, Nat.zero_le _, rfl, rfl, .inl ⟨rfl, fun i hi => by omega⟩⟩ (by omega)
    rintro q s ⟨i, b, hi, rfl, rfl, hB⟩ next' hn'
    dsimp only
    by_cases e : i < l.length
    · have hstep := fun b' hb' => hn' (l.length - (i + 1)) (l, out, u, b', ((i + 1 : Nat) : Int)) (by omega) ⟨i + 1, b', by omega, rfl, rfl, hb'⟩
      rw [bif_T (by omega), gd_t (inb_t ⟨by omega, by omega⟩), w64_id (by omega) (by omega)]
      cases hu : rdD false u (i : Int) with
      | true =>
        have hne : u[i]? ≠ some false := fun h => by rw [(rd_false (by omega)).2 h] at hu; cases hu
        rw [Bool.not_true, cF, cF]
        refine hstep b ?_
        rcases hB with ⟨h1, h2⟩ | ⟨j, h1, h2, h3, h4⟩
        · exact .inl ⟨h1, fun k hk => if c : k = i then (by subst c; exact hne) else h2 k (by omega)⟩
        · exact .inr ⟨j, h1, by omega, h3, fun k hk hj hki hku => if c : k = i then (by subst c; exact absurd hku hne) else h4 k hk hj (by omega) hku⟩
      | false =>
        have hue := (rd_false (by omega)).1 hu
        rw [Bool.not_false, cT]
        rcases hB with ⟨rfl, h2⟩ | ⟨j, rfl, h2, h3, h4⟩
        · rw [bif_T (by omega), cT]
          refine hstep _ (.inr ⟨i, rfl, by omega, hue, fun k hk _ hki hku => ?_⟩)
          by_cases c : k = i
          · subst c; exact Int.le_refl _
          · exact absurd hku (h2 k (by omega))
        · rw [bif_F (by omega), gd_t (inb_t ⟨by omega, by omega⟩), gd_t (inb_t ⟨by omega, by omega⟩), rd_get _ _ i e, rd_get _ _ j (by omega)]
          by_cases c1 : (l[i]).1 < (l[j]'(by omega)).1
          · rw [bif_T c1]
            refine hstep _ (.inr ⟨i, rfl, by omega, hue, fun k hk _ hki hku => ?_⟩)
            by_cases c : k = i
            · subst c; exact Int.le_refl _
            · have := h4 k hk (by omega) (by omega) hku; omega
          · rw [bif_F c1]
            refine hstep _ (.inr ⟨j, rfl, by omega, h3, fun k hk hj hki hku => ?_⟩)
            by_cases c : k = i
            · subst c; omega
            · exact h4 k hk hj (by omega) hku
    · obtain rfl : i = l.length := by omega
      rw [bif_F (by omega)]
      clear hn'
      rcases hB with ⟨rfl, h2⟩ | ⟨j, rfl, h2, h3, h4⟩
      · rw [bif_T (by omega)]
        refine ⟨_, rfl, hres' _ ?_⟩
        have := hC [] (.nil (by rintro x ⟨i, hi, h, rfl⟩; exact h2 i hi h))
        simpa using this
      · rw [bif_F (by omega)]
        -- round
        refine loop_ex (fun q s => ∃ (u' : List Bool) (b : Int) (ring : List Int), u'.length = l.length ∧ ring.length + cnt u' ≤ l.length ∧ q = cnt u' ∧ s = (l, out, u', b, ring) ∧ ((b = -1 ∧ cnt u' < cnt u ∧ ∀ rs, Rr (un l u') rs → Rr (un l u) (ring :: rs)) ∨ ∃ j : Nat, ∃ hj : j < l.length, b = (j : Int) ∧ cnt u' ≤ cnt u ∧ u'[j]? = some false ∧ ∀ r S' rs, Fol (un l u') l[j] r S' → Rr S' rs → Rr (un l u) ((ring ++ r) :: rs))) Q ?_ (m + 1000) (cnt u) _ ⟨u, (j : Int), [], hul, by have := hcntl u hul; simpa using this, rfl, rfl, .inr ⟨j, h2, rfl, Nat.le_refl _, h3, fun r S' rs hf hr => ?_⟩⟩ (by have := hcntl u hul; omega)
        · rintro q s ⟨u', b, ring, hul', hrl', rfl, rfl, hcase⟩ next'' hn''
          dsimp only
          rcases hcase with ⟨rfl, hlt, hK⟩ | ⟨j', hj', rfl, hle, hju, hK⟩
          · rw [bif_F (by omega), gd_t (few_t (by omega))]
            exact hn (cnt u') _ hlt ⟨out ++ [ring], u', hul', by simp; omega, rfl, rfl, fun rs hrs => by have := hC _ (hK rs hrs); simpa using this⟩
          · have hcs := cnt_set hju
            rw [bif_T (by omega), gd_t (inb_t ⟨by omega, by omega⟩), gd_t (inb_t ⟨by omega, by omega⟩), gd_t (few_t (by omega)), gd_t (inb_t ⟨by omega, by omega⟩), rd_get _ _ _ hj']
            have hsu : stL u' (j' : Int) true = u'.set j' true := rfl
            rw [hsu]
            have hunS := un_set hnd hul' hj'
            have hmem : un l u' l[j'] := ⟨j', hj', hju, rfl⟩
            have hul2 : (u'.set j' true).length = l.length := by rw [List.length_set]; exact hul'
            refine loop_ex (fun q s => ∃ (i : Nat) (b : Int), i ≤ l.length ∧ q = l.length - i ∧ s = (l, out, u'.set j' true, b, ring ++ [l[j'].1], l[j'].2, (i : Int)) ∧ Nxt l (u'.set j' true) l[j'].2 i b) Q ?_ (m + 1000) l.length _ ⟨0, -1, Nat.zero_le _, rfl, rfl, .inl ⟨rfl, fun i _ hi => by omega⟩⟩ (by omega)
            rintro q s ⟨i, b, hi, rfl, rfl, hB⟩ next3 hn3
            dsimp only
            by_cases e : i < l.length
            · have hstep := fun b' hb' => hn3 (l.length - (i + 1)) (l, out, u'.set j' true, b', ring ++ [l[j'].1], l[j'].2, ((i + 1 : Nat) : Int)) (by omega) ⟨i + 1, b', by omega, rfl, rfl, hb'⟩
              have keep : ((u'.set j' true)[i]? = some false → l[i].1 ≠ l[j'].2) → Nxt l (u'.set j' true) l[j'].2 (i + 1) b := by
                intro hno
                rcases hB with ⟨g1, g2⟩ | ⟨y, g1, g2, g3, g4, g5⟩
                · exact .inl ⟨g1, fun k hk hki hku => if c : k = i then (by subst c; exact hno hku) else g2 k hk (by omega) hku⟩
                · exact .inr ⟨y, g1, g2, by omega, g4, g5⟩
              rw [bif_T (by omega), gd_t (inb_t ⟨by omega, by omega⟩), w64_id (by omega) (by omega)]
              cases hu : rdD false (u'.set j' true) (i : Int) with
              | true =>
                have hne : (u'.set j' true)[i]? ≠ some false := fun h => by rw [(rd_false (by omega)).2 h] at hu; cases hu
                rw [Bool.not_true, cF, cF]
                exact hstep b (keep fun h => absurd h hne)
              | false =>
                have hue := (rd_false (by omega)).1 hu
                rw [Bool.not_false, cT, gd_t (inb_t ⟨by omega, by omega⟩), rd_get _ _ i e]
                by_cases c1 : l[i].1 = l[j'].2
                · rw [bif_T c1]
                  exact hstep _ (.inr ⟨i, e, rfl, by omega, hue, c1⟩)
                · rw [bif_F c1]
                  exact hstep b (keep fun _ => c1)
            · obtain rfl : i = l.length := by omega
              rw [bif_F (by omega)]
              refine hn'' (cnt (u'.set j' true)) _ (by omega) ⟨u'.set j' true, b, ring ++ [l[j'].1], hul2, by simp; omega, rfl, rfl, ?_⟩
              rcases hB with ⟨rfl, g2⟩ | ⟨y, g1, rfl, g3, g4, g5⟩
              · refine .inl ⟨rfl, by omega, fun rs hrs => ?_⟩
                refine hK [l[j'].1] _ rs (.stop ?_) (by rw [hunS] at hrs; exact hrs)
                rintro x ⟨k, hk, hku, rfl⟩ hne
                have : un l (u'.set j' true) l[k] := by rw [hunS]; exact ⟨⟨k, hk, hku, rfl⟩, hne⟩
                obtain ⟨k', hk', hku', he⟩ := this
                rw [← he]
                exact g2 k' hk' hk' hku'
              · refine .inr ⟨y, g1, rfl, by omega, g4, fun r S' rs hf hr => ?_⟩
                have hin : un l (u'.set j' true) l[y] := ⟨y, g1, g4, rfl⟩
                rw [hunS] at hin hf
                have := hK (l[j'].1 :: r) S' rs (.go hin.1 hin.2 g5 hf) hr
                simpa using this
        · exact .cons ⟨j, h2, h3, rfl⟩ (by rintro x ⟨k, hk, hku, rfl⟩; exact h4 k hk h2 hk hku) hf hr
  · rintro ⟨i, hi, hb⟩
    refine ⟨_, rfl, .inr (.inl ⟨hch, fun hon => ?_, rfl⟩)⟩
    have := dup_any (rimv f)
    rw [List.any_eq_true.2 ⟨i, List.mem_range.2 hi, hb⟩, decide_eq_true hon] at this
    cases this
  · intro i hi next
    dsimp only
    rw [bif_T (by omega)]
    refine (loop_any (fun k => (rimv f, (i : Int), (k : Int))) i (fun k => decide ((rdD (0, 0) (rimv f) (i : Int)).1 = (rdD (0, 0) (rimv f) (k : Int)).1)) (some ([], 81)) (next (rimv f, ((i + 1 : Nat) : Int))) ?_ ?_ (m + 1000) (by omega)).trans rfl
    · intro next'
      dsimp only
      rw [bif_F (by omega), w64_id (by omega) (by omega)]
      rfl
    · intro k hk next'
      dsimp only
      rw [bif_T (by omega), gd_t (inb_t ⟨by omega, by omega⟩), gd_t (inb_t ⟨by omega, by omega⟩), w64_id (by omega) (by omega)]
      rfl
end Go.Proofs.Ytiejhpighhjgiaa.Pure
