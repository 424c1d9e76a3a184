/- Rims of what faces come to. -/
import Derived.Test.YtiejhpighhjgiaaB16
set_option linter.unusedVariables false
set_option linter.unusedSimpArgs false
set_option linter.unusedSectionVars false
namespace Go.Proofs.Ytiejhpighhjgiaa.Pure
open Go.RowKit Go.Proofs.Ytiejhpighhjgiaa.AM

theorem mem_rim {f : List (List Int)} {x : Pt} : x ∈ rimv f ↔ x ∈ alls f ∧ rv x ∉ alls f := by
  unfold rimv rimL isRim
  simp [List.mem_filter]
theorem once_iff {l : List Pt} (hn : l.Nodup) : Once l ↔ ∀ x ∈ l, ∀ y ∈ l, x.1 = y.1 → x = y := by
  constructor
  · intro h x hx y hy e
    obtain ⟨i, hi, rfl⟩ := List.getElem_of_mem hx
    obtain ⟨j, hj, rfl⟩ := List.getElem_of_mem hy
    have hij : i = j := by
      rcases Nat.lt_trichotomy i j with hlt | he | hgt
      · have := List.pairwise_iff_getElem.1 h i j (by simpa using hi) (by simpa using hj) hlt
        simp only [List.getElem_map] at this
        exact absurd e this
      · exact he
      · have := List.pairwise_iff_getElem.1 h j i (by simpa using hj) (by simpa using hi) hgt
        simp only [List.getElem_map] at this
        exact absurd e.symm this
    subst hij
    rfl
  · intro h
    refine List.pairwise_iff_getElem.2 fun i j hi hj hlt e => ?_
    simp only [List.getElem_map, List.length_map] at e hi hj
    exact List.pairwise_iff_getElem.1 hn i j hi hj hlt (h _ (List.getElem_mem hi) _ (List.getElem_mem hj) e)
/-- Rings twice as long, from the same places. -/
def Dbl : List (List Int) → List (List Int) → Prop
  | [], [] => True
  | r :: rs, s :: ss => (s.length = 2 * r.length ∧ 0 < r.length ∧ s.head? = r.head?) ∧ Dbl rs ss
  | _, _ => False
theorem Dbl.len : ∀ {rs ss : List (List Int)}, Dbl rs ss → ss.length = rs.length
  | [], [], _ => rfl
  | r :: rs, s :: ss, h => by simp [Dbl.len h.2]
  | [], _ :: _, h => h.elim
  | _ :: _, [], h => h.elim
theorem Dbl.at : ∀ {rs ss : List (List Int)}, Dbl rs ss → ∀ i (hi : i < rs.length) (hj : i < ss.length), ss[i].length = 2 * rs[i].length ∧ 0 < rs[i].length ∧ ss[i].head? = rs[i].head?
  | r :: rs, s :: ss, h, 0, _, _ => h.1
  | r :: rs, s :: ss, h, i + 1, hi, hj => by
    have := Dbl.at h.2 i (by simpa using hi) (by simpa using hj)
    simpa using this
theorem Fol.sub {S S' : Pt → Prop} {e : Pt} {r : List Int} (h : Fol S e r S') : ∀ x, S' x → S x := by
  induction h with
  | stop _ => intro x hx; exact hx.1
  | go _ _ _ _ ih => intro x hx; exact (ih x hx).1
section
variable {p : List Pt} {f : List (List Int)} (h : chk p.length f = 0)
include h
theorem eN_rim {e e' : Pt} (he : e ∈ rimv f) (he' : e' ∈ rimv f) (hx : eN p.length (edgs f) e = eN p.length (edgs f) e') : e = e' := by
  obtain ⟨a1, a2⟩ := mem_rim.1 he
  obtain ⟨b1, b2⟩ := mem_rim.1 he'
  rcases up_two (eN_inj h a1 b1 hx) with e1 | e1
  · exact e1
  · rw [e1] at a1; exact absurd a1 b2
omit h in
theorem eN_rv (np : Nat) (L : List Pt) (e : Pt) : eN np L (rv e) = eN np L e := by unfold eN; rw [up_rv]
theorem rim_outs (x : Pt) : x ∈ rimv (outs p.length (edgs f) f f.length) ↔ ∃ e ∈ rimv f, x = ha p.length (edgs f) e ∨ x = hb p.length (edgs f) e := by
  have F := fine_of h
  have hin : ∀ {e : Pt}, e ∈ alls f → ha p.length (edgs f) e ∈ alls (outs p.length (edgs f) f f.length) ∧ hb p.length (edgs f) e ∈ alls (outs p.length (edgs f) f f.length) := by
    intro e he
    obtain ⟨i, k, hi, hk, rfl⟩ := alls_ed h he
    exact ⟨(mem_outs h _).2 ⟨i, k, hi, hk, .inl rfl⟩, (mem_outs h _).2 ⟨i, k, hi, hk, .inr (.inr (.inr rfl))⟩⟩
  have r1 : ∀ {e : Pt}, e ∈ alls f → (rv (ha p.length (edgs f) e) ∈ alls (outs p.length (edgs f) f f.length) ↔ rv e ∈ alls f) := by
    intro e he
    constructor
    · intro hm
      obtain ⟨i, k, hi, hk, hc⟩ := (mem_outs h _).1 hm
      have hme := ed_mem h hi hk
      have a := alls_rng h he
      have b := eN_rng h he
      have c := alls_rng h hme
      have d := eN_rng h hme
      unfold rv ha hb at hc
      simp only [Prod.mk.injEq] at hc
      rcases hc with ⟨h1, h2⟩ | ⟨h1, h2⟩ | ⟨h1, h2⟩ | ⟨h1, h2⟩
      · omega
      · omega
      · omega
      · rcases up_two (eN_inj h he hme h1) with e1 | e1
        · rw [← e1] at h2
          exact absurd h2 (F.ne he)
        · rw [e1]
          exact hme
    · intro hm
      have := (hin hm).2
      unfold hb at this
      rw [eN_rv] at this
      exact this
  have r2 : ∀ {e : Pt}, e ∈ alls f → (rv (hb p.length (edgs f) e) ∈ alls (outs p.length (edgs f) f f.length) ↔ rv e ∈ alls f) := by
    intro e he
    constructor
    · intro hm
      obtain ⟨i, k, hi, hk, hc⟩ := (mem_outs h _).1 hm
      have hme := ed_mem h hi hk
      have a := alls_rng h he
      have b := eN_rng h he
      have c := alls_rng h hme
      have d := eN_rng h hme
      unfold rv ha hb at hc
      simp only [Prod.mk.injEq] at hc
      rcases hc with ⟨h1, h2⟩ | ⟨h1, h2⟩ | ⟨h1, h2⟩ | ⟨h1, h2⟩
      · rcases up_two (eN_inj h he hme h2) with e1 | e1
        · rw [← e1] at h1
          exact absurd h1.symm (F.ne he)
        · rw [e1]
          exact hme
      · omega
      · omega
      · omega
    · intro hm
      have := (hin hm).1
      unfold ha at this
      rw [eN_rv] at this
      exact this
  rw [mem_rim]
  constructor
  · rintro ⟨hx, hn⟩
    obtain ⟨i, k, hi, hk, hc⟩ := (mem_outs h _).1 hx
    have hme := ed_mem h hi hk
    rcases hc with rfl | rfl | rfl | rfl
    · exact ⟨_, mem_rim.2 ⟨hme, fun h' => hn ((r1 hme).2 h')⟩, .inl rfl⟩
    · exact absurd ((mem_outs h _).2 ⟨i, k, hi, hk, .inr (.inr (.inl rfl))⟩) hn
    · exact absurd ((mem_outs h _).2 ⟨i, k, hi, hk, .inr (.inl rfl)⟩) hn
    · exact ⟨_, mem_rim.2 ⟨hme, fun h' => hn ((r2 hme).2 h')⟩, .inr rfl⟩
  · rintro ⟨e, he, hx⟩
    obtain ⟨a1, a2⟩ := mem_rim.1 he
    rcases hx with rfl | rfl
    · exact ⟨(hin a1).1, fun h' => a2 ((r1 a1).1 h')⟩
    · exact ⟨(hin a1).2, fun h' => a2 ((r2 a1).1 h')⟩
theorem rim_facts {e e' : Pt} (he : e ∈ rimv f) (he' : e' ∈ rimv f) : (ha p.length (edgs f) e).1 ≠ (hb p.length (edgs f) e').1 ∧ e.2 ≠ eN p.length (edgs f) e' ∧ e.1 < eN p.length (edgs f) e' := by
  have a := alls_rng h (mem_rim.1 he).1
  have b := eN_rng h (mem_rim.1 he').1
  unfold ha hb
  refine ⟨?_, by omega, by omega⟩
  dsimp only
  omega
theorem once_outs : Once (rimv (outs p.length (edgs f) f f.length)) ↔ Once (rimv f) := by
  have F := fine_of h
  have n1 : (rimv f).Nodup := nodup_filter _ F.once
  have n2 : (rimv (outs p.length (edgs f) f f.length)).Nodup := nodup_filter _ (fine_outs h).once
  rw [once_iff n1, once_iff n2]
  constructor
  · intro H e he e' he' hx
    have := H _ ((rim_outs h _).2 ⟨e, he, .inl rfl⟩) _ ((rim_outs h _).2 ⟨e', he', .inl rfl⟩) hx
    exact eN_rim h he he' (congrArg (·.2) this)
  · intro H x hx y hy hxy
    obtain ⟨e, he, hx⟩ := (rim_outs h _).1 hx
    obtain ⟨e', he', hy⟩ := (rim_outs h _).1 hy
    rcases hx with rfl | rfl <;> rcases hy with rfl | rfl
    · rw [H e he e' he' hxy]
    · exact absurd hxy (rim_facts h he he').1
    · exact absurd hxy.symm (rim_facts h he' he).1
    · rw [eN_rim h he he' hxy]
/-- What is left, halved. -/
def DD (p : List Pt) (f : List (List Int)) (S Sg : Pt → Prop) : Prop := ∀ x, Sg x ↔ ∃ e, S e ∧ (x = ha p.length (edgs f) e ∨ x = hb p.length (edgs f) e)
theorem DD.erase {S Sg : Pt → Prop} (hD : DD p f S Sg) (hS : ∀ x, S x → x ∈ rimv f) {e : Pt} (he : S e) : DD p f (fun x => S x ∧ x ≠ e) (fun x => (Sg x ∧ x ≠ ha p.length (edgs f) e) ∧ x ≠ hb p.length (edgs f) e) := by
  intro x
  constructor
  · rintro ⟨⟨h1, h2⟩, h3⟩
    obtain ⟨e', he', hx⟩ := (hD x).1 h1
    refine ⟨e', ⟨he', ?_⟩, hx⟩
    rintro rfl
    rcases hx with hx | hx
    · exact h2 hx
    · exact h3 hx
  · rintro ⟨e', ⟨he', hne⟩, hx⟩
    refine ⟨⟨(hD x).2 ⟨e', he', hx⟩, ?_⟩, ?_⟩
    · rcases hx with rfl | rfl
      · intro e1
        exact hne (eN_rim h (hS _ he') (hS _ he) (congrArg (·.2) e1))
      · intro e1
        exact (rim_facts h (hS _ he) (hS _ he')).1 (congrArg (·.1) e1).symm
    · rcases hx with rfl | rfl
      · intro e1
        exact (rim_facts h (hS _ he') (hS _ he)).1 (congrArg (·.1) e1)
      · intro e1
        exact hne (eN_rim h (hS _ he') (hS _ he) (congrArg (·.1) e1))
theorem fol_sim (hon : Once (rimv f)) {S S' : Pt → Prop} {e : Pt} {r : List Int} (hf : Fol S e r S') : (∀ x, S x → x ∈ rimv f) → S e → ∀ {Sg Sg' : Pt → Prop} {s : List Int}, DD p f S Sg → Fol Sg (ha p.length (edgs f) e) s Sg' → (s.length = 2 * r.length ∧ 0 < r.length ∧ s.head? = r.head?) ∧ DD p f S' Sg' := by
  have F := fine_of h
  have n1 : (rimv f).Nodup := nodup_filter _ F.once
  have hone := (once_iff n1).1 hon
  -- what is told of the first step, and of the second
  have first : ∀ {S Sg Sg' : Pt → Prop} {e : Pt} {s : List Int}, (∀ x, S x → x ∈ rimv f) → S e → DD p f S Sg → Fol Sg (ha p.length (edgs f) e) s Sg' → ∃ s1, s = e.1 :: s1 ∧ Fol (fun x => Sg x ∧ x ≠ ha p.length (edgs f) e) (hb p.length (edgs f) e) s1 Sg' := by
    intro S Sg Sg' e s hS he hD hg
    have hbm : Sg (hb p.length (edgs f) e) := (hD _).2 ⟨e, he, .inr rfl⟩
    have hne : hb p.length (edgs f) e ≠ ha p.length (edgs f) e := fun e1 => (rim_facts h (hS _ he) (hS _ he)).1 (congrArg (·.1) e1).symm
    cases hg with
    | stop hno => exact absurd rfl (hno _ hbm hne)
    | @go _ _ _ e1 s1 h1 h2 h3 h4 =>
      have : e1 = hb p.length (edgs f) e := by
        obtain ⟨e'', he'', hx⟩ := (hD _).1 h1
        rcases hx with rfl | rfl
        · exact absurd h3 (by have := (rim_facts h (hS _ he'') (hS _ he)).2.2; show e''.1 ≠ eN p.length (edgs f) e; omega)
        · rw [eN_rim h (hS _ he'') (hS _ he) h3]
      subst this
      exact ⟨s1, rfl, h4⟩
  induction hf with
  | @stop S e hno =>
    intro hS he Sg Sg' s hD hg
    obtain ⟨s1, rfl, h4⟩ := first hS he hD hg
    have hD2 := hD.erase h hS he
    cases h4 with
    | stop hno2 => exact ⟨⟨rfl, by simp, rfl⟩, hD2⟩
    | @go _ _ _ e2 s2 h1 h2 h3 h4 =>
      exfalso
      obtain ⟨e'', ⟨he'', hne⟩, hx⟩ := (hD2 e2).1 ⟨h1, h2⟩
      rcases hx with rfl | rfl
      · exact hno e'' he'' hne h3
      · exact (rim_facts h (hS _ he) (hS _ he'')).2.1 h3.symm
  | @go S S' e e' r' h1 h2 h3 h4 ih =>
    intro hS he Sg Sg' s hD hg
    obtain ⟨s1, rfl, h5⟩ := first hS he hD hg
    have hD2 := hD.erase h hS he
    have hS2 : ∀ x, (S x ∧ x ≠ e) → x ∈ rimv f := fun x hx => hS x hx.1
    cases h5 with
    | stop hno2 =>
      exfalso
      have : (Sg (ha p.length (edgs f) e') ∧ ha p.length (edgs f) e' ≠ ha p.length (edgs f) e) ∧ ha p.length (edgs f) e' ≠ hb p.length (edgs f) e := (hD2 _).2 ⟨e', ⟨h1, h2⟩, .inl rfl⟩
      exact hno2 _ this.1 this.2 h3
    | @go _ _ _ e2 s2 g1 g2 g3 g4 =>
      obtain ⟨e'', ⟨he'', hne⟩, hx⟩ := (hD2 e2).1 ⟨g1, g2⟩
      rcases hx with rfl | rfl
      · have : e'' = e' := hone _ (hS _ he'') _ (hS _ h1) (g3.trans h3.symm)
        subst this
        obtain ⟨⟨l1, l2, l3⟩, hD'⟩ := ih hS2 ⟨h1, h2⟩ hD2 g4
        refine ⟨⟨?_, by simp, rfl⟩, hD'⟩
        simp only [List.length_cons]
        omega
      · exact absurd g3.symm (rim_facts h (hS _ he) (hS _ he'')).2.1
theorem rr_sim (hon : Once (rimv f)) {S : Pt → Prop} {rs : List (List Int)} (hr : Rr S rs) : (∀ x, S x → x ∈ rimv f) → ∀ {Sg : Pt → Prop} {ss : List (List Int)}, DD p f S Sg → Rr Sg ss → Dbl rs ss := by
  have F := fine_of h
  have n1 : (rimv f).Nodup := nodup_filter _ F.once
  have hone := (once_iff n1).1 hon
  induction hr with
  | @nil S hno =>
    intro hS Sg ss hD hg
    cases hg with
    | nil _ => trivial
    | cons h1 _ _ _ =>
      obtain ⟨e, he, _⟩ := (hD _).1 h1
      exact absurd he (hno e)
  | @cons S S' e r rs h1 h2 h3 h4 ih =>
    intro hS Sg ss hD hg
    have hm : Sg (ha p.length (edgs f) e) := (hD _).2 ⟨e, h1, .inl rfl⟩
    cases hg with
    | nil hno => exact absurd hm (hno _)
    | @cons _ Sg' e1 s ss g1 g2 g3 g4 =>
      have : e1 = ha p.length (edgs f) e := by
        obtain ⟨e'', he'', hx⟩ := (hD _).1 g1
        have hle := g2 _ hm
        rcases hx with rfl | rfl
        · have h5 := h2 e'' he''
          have : e'' = e := hone _ (hS _ he'') _ (hS _ h1) (Int.le_antisymm hle h5)
          rw [this]
        · have := (rim_facts h (hS _ h1) (hS _ he'')).2.2
          have hle' : eN p.length (edgs f) e'' ≤ e.1 := hle
          omega
      subst this
      obtain ⟨hl, hD'⟩ := fol_sim h hon h3 hS h1 hD g3
      exact ⟨hl, ih (fun x hx => hS x (h3.sub x hx)) hD' g4⟩
end
end Go.Proofs.Ytiejhpighhjgiaa.Pure
