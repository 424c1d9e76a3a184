/- Edges: each once, in their order. -/
import Derived.Test.YtiejhpighhjgiaaB2
set_option linter.unusedVariables false
set_option linter.unusedSimpArgs false
namespace Go.Proofs.Ytiejhpighhjgiaa.Pure
open Go.RowKit Go.Proofs.Ytiejhpighhjgiaa.AM

def up (s : Pt) : Pt := (mnI s.1 s.2, mxI s.1 s.2)
def rv (s : Pt) : Pt := (s.2, s.1)
def ltS (a b : Pt) : Prop := a.1 < b.1 ∨ (a.1 = b.1 ∧ a.2 < b.2)
instance (a b : Pt) : Decidable (ltS a b) := inferInstanceAs (Decidable (_ ∨ _))
theorem ltS_irr (a : Pt) : ¬ltS a a := by unfold ltS; omega
theorem ltS_trans {a b c : Pt} (h : ltS a b) (h' : ltS b c) : ltS a c := by unfold ltS at *; omega
theorem ltS_tri {a b : Pt} (h : ¬ltS a b) (h' : ¬ltS b a) : a = b := by unfold ltS at *; exact Prod.ext (by omega) (by omega)
theorem up_lt {s : Pt} (h : s.1 < s.2) : up s = s := by unfold up mnI mxI; rw [if_neg (by omega), if_pos h]
theorem up_gt {s : Pt} (h : s.2 < s.1) : up s = rv s := by unfold up mnI mxI rv; rw [if_pos h, if_neg (by omega)]
theorem up_rv (s : Pt) : up (rv s) = up s := by unfold up rv mnI mxI; dsimp only; (repeat' split) <;> first | omega | (refine Prod.ext ?_ ?_ <;> dsimp only <;> omega)
/-- Sorted, and what is in it. -/
def Srt (l : List Pt) : Prop := l.Pairwise ltS
theorem srt_ext : ∀ {l r : List Pt}, Srt l → Srt r → (∀ x, x ∈ l ↔ x ∈ r) → l = r
  | [], [], _, _, _ => rfl
  | [], y :: r, _, _, h => by have := (h y).2 List.mem_cons_self; cases this
  | x :: l, [], _, _, h => by have := (h x).1 List.mem_cons_self; cases this
  | x :: l, y :: r, hl, hr, h => by
    have hl' := List.pairwise_cons.1 hl
    have hr' := List.pairwise_cons.1 hr
    have e : x = y := by
      have h1 := (h x).1 List.mem_cons_self
      have h2 := (h y).2 List.mem_cons_self
      rcases List.mem_cons.1 h1 with e | h1
      · exact e
      · rcases List.mem_cons.1 h2 with e | h2
        · exact e.symm
        · exact absurd (ltS_trans (hl'.1 y h2) (hr'.1 x h1)) (ltS_irr x)
    subst e
    congr 1
    refine srt_ext hl'.2 hr'.2 fun z => ⟨fun hz => ?_, fun hz => ?_⟩
    · have := (h z).1 (List.mem_cons_of_mem _ hz)
      rcases List.mem_cons.1 this with e | h2
      · subst e; exact absurd (hl'.1 z hz) (ltS_irr z)
      · exact h2
    · have := (h z).2 (List.mem_cons_of_mem _ hz)
      rcases List.mem_cons.1 this with e | h2
      · subst e; exact absurd (hr'.1 z hz) (ltS_irr z)
      · exact h2

theorem le_55 (x y : Pt) : (!(decide (cf_55 y x < 0))) = decide (¬ltS y x) := by
  have h := lt_55 y x
  unfold Go.Proofs.ltOf at h
  rw [h, ← decide_not]
  rfl
theorem srtL_eq (l : List Pt) : srtL cf_55 l = l.mergeSort fun x y => decide (¬ltS y x) := by
  unfold srtL
  congr 1
  funext x y
  exact le_55 x y
theorem srtL_perm (l : List Pt) : (srtL cf_55 l).Perm l := by rw [srtL_eq]; exact List.mergeSort_perm _ _
theorem srtL_pair (l : List Pt) : (srtL cf_55 l).Pairwise fun x y => ¬ltS y x := by
  rw [srtL_eq]
  have := List.pairwise_mergeSort (le := fun x y : Pt => decide (¬ltS y x)) (fun a b c h1 h2 => by
    simp only [decide_eq_true_eq] at *
    intro h
    apply h1
    by_cases h3 : ltS b c
    · by_cases h4 : ltS a b
      · exact absurd (ltS_trans h4 (ltS_trans h3 h)) (ltS_irr a)
      · by_cases h5 : ltS b a
        · exact h5
        · rw [ltS_tri h4 h5] at h; exact absurd (ltS_trans h h3) (ltS_irr c)
    · rw [ltS_tri h3 h2]; exact h) (fun a b => by
    simp only [Bool.or_eq_true, decide_eq_true_eq]
    by_cases h : ltS b a
    · exact .inr fun h' => ltS_irr a (ltS_trans h' h)
    · exact .inl h) l
  exact this.imp fun h => by simpa using h
theorem srtL_inv {l r : List Pt} (h : l.Perm r) : srtL cf_55 l = srtL cf_55 r :=
  List.Perm.eq_of_pairwise (fun a b _ _ h1 h2 => ltS_tri h2 h1) (srtL_pair l) (srtL_pair r) (((srtL_perm l).trans h).trans (srtL_perm r).symm)
theorem srtL_srt {l : List Pt} (h : l.Nodup) : Srt (srtL cf_55 l) := by
  have hn : (srtL cf_55 l).Nodup := (srtL_perm l).symm.nodup h
  refine List.Pairwise.imp₂ ?_ (srtL_pair l) hn
  intro a b h1 h2
  apply Decidable.byContradiction
  intro h3
  exact h2 (ltS_tri h3 h1)

/-- Which edges of a table come, and how. -/
def upK (T : List (Pt × Int)) (e : Pt × Int) : Option Pt := if e.1.1 < e.1.2 ∨ rv e.1 ∉ T.map (·.1) then some (up e.1) else none
theorem erase_perm {α : Type} : ∀ {es : List α} {j : Nat} {e : α}, es[j]? = some e → (e :: es.eraseIdx j).Perm es
  | [], j, e, h => by simp at h
  | x :: es, 0, e, h => by
    simp only [List.getElem?_cons_zero, Option.some.injEq] at h
    subst h
    exact List.Perm.refl _
  | x :: es, j + 1, e, h => by
    have ih := erase_perm (es := es) (j := j) (e := e) (by simpa using h)
    rw [List.eraseIdx_cons_succ]
    exact (List.Perm.swap x e _).trans (ih.cons x)
theorem medges_f (m : Nat) (T : List (Pt × Int)) (f : List (List Int)) (hl : T.length ≤ 900) (hv : ∀ p ∈ T, 0 ≤ p.2) : g_faces_mesh_edges (m + 1000) (T, f) = some (srtL cf_55 (T.filterMap (upK T))) := by
  have hU : (T.filterMap (upK T)).length ≤ 900 := Nat.le_trans (List.length_filterMap_le _ _) hl
  generalize hUe : T.filterMap (upK T) = U at hU
  unfold g_faces_mesh_edges
  simp only [meet]
  refine loop_rel (fun r s v => ∃ acc es, r = es.length ∧ s = ((T, f), acc, es) ∧ (acc ++ es.filterMap (upK T)).Perm U ∧ v = some (srtL cf_55 U)) ?_ (m + 1000) T.length _ _ ⟨[], T, rfl, rfl, by rw [← hUe]; exact List.Perm.refl _, rfl⟩ (by omega)
  rintro r s v ⟨acc, es, rfl, rfl, hp, rfl⟩ next hn
  dsimp only
  have hal : acc.length ≤ U.length := by
    have := hp.length_eq
    rw [List.length_append] at this
    omega
  by_cases hes : es = []
  · subst hes
    rw [nxt_nil, gd_t (few_t (by omega))]
    congr 1
    exact srtL_inv (by simpa using hp)
  · refine nxt_of hes fun j e he => ?_
    obtain ⟨e5, e6⟩ := e
    dsimp only
    have hpe := erase_perm he
    have hlen : (es.eraseIdx j).length < es.length := by have := hpe.length_eq; simp at this; omega
    have hp2 : (acc ++ (upK T (e5, e6)).toList ++ (es.eraseIdx j).filterMap (upK T)).Perm U := by
      refine List.Perm.trans ?_ hp
      rw [List.append_assoc]
      refine List.Perm.append_left acc ?_
      have := List.Perm.filterMap (upK T) hpe
      rw [List.filterMap_cons] at this
      cases hu : upK T (e5, e6) with
      | none => rw [hu] at this; simpa using this
      | some u => rw [hu] at this; simpa using this
    have hyes : upK T (e5, e6) = some (up e5) → (gd (few (acc.length + 1)) (next ((T, f), acc ++ [(mnI e5.1 e5.2, mxI e5.1 e5.2)], es.eraseIdx j))) = some (srtL cf_55 U) := by
      intro hu
      rw [hu] at hp2
      have : acc.length + 1 ≤ U.length := by
        have := hp2.length_eq
        simp at this
        omega
      rw [gd_t (few_t (by omega))]
      exact hn _ _ _ hlen ⟨acc ++ [up e5], _, rfl, rfl, hp2, rfl⟩
    have hno : upK T (e5, e6) = none → next ((T, f), acc, es.eraseIdx j) = some (srtL cf_55 U) := by
      intro hu
      rw [hu] at hp2
      exact hn _ _ _ hlen ⟨acc, _, rfl, rfl, by simpa using hp2, rfl⟩
    by_cases h1 : e5.1 < e5.2
    · rw [bif_T h1, cT]
      exact hyes (by rw [upK, if_pos (.inl h1)])
    · rw [bif_F h1]
      show (bif hsP T (rv e5) then (bif decide (lkP T (rv e5) < 0) then _ else _) else _) = _
      rw [hs_mem]
      by_cases h2 : rv e5 ∈ T.map (·.1)
      · obtain ⟨p, hp', _, h3⟩ := lk_mem h2
        have := hv p hp'
        rw [bif_T h2, h3, bif_F (by omega)]
        exact hno (by rw [upK, if_neg (by rintro (h | h) <;> contradiction)])
      · rw [bif_F h2, cT]
        exact hyes (by rw [upK, if_pos (.inr h2)])
theorem tab_len (f : List (List Int)) : (tab f).length = (alls f).length := by rw [← keys_tab, List.length_map]
theorem tab_val (f : List (List Int)) : ∀ p ∈ tab f, 0 ≤ p.2 := by
  intro p hp
  obtain ⟨i', _, hp⟩ := List.mem_flatMap.1 hp
  obtain ⟨e, _, rfl⟩ := List.mem_map.1 hp
  exact Int.natCast_nonneg i'
def ups (f : List (List Int)) : List Pt := (tab f).filterMap (upK (tab f))
def edgs (f : List (List Int)) : List Pt := if chk 1048576 f = 0 then srtL cf_55 (ups f) else []
theorem edges_f (m : Nat) (f : List (List Int)) (hl : f.length ≤ 900) (hc : ∀ c ∈ f, c.length ≤ 900) (ht : (alls f).length ≤ 900) : g_faces_Edges (m + 1000) f = some (edgs f) := by
  unfold g_faces_Edges b_faces_Edges edgs
  rw [known_f m _ f hl hc, bnd_s]
  by_cases h : chk 1048576 f = 0
  · rw [if_pos h, if_pos h]
    dsimp only
    rw [medges_f m _ _ (by rw [tab_len]; exact ht) (tab_val f)]
    rfl
  · rw [if_neg h, if_neg h]
    dsimp only
    rw [medges_f m [] [] (by simp) (by simp)]
    show some (srtL cf_55 []) = some []
    rw [srtL_nil]
/-- No face's edge goes from a place to itself, where there are two or more. -/
structure Fine (n : Int) (f : List (List Int)) : Prop where
  big : ∀ c ∈ f, 3 ≤ c.length
  nd : ∀ c ∈ f, c.Nodup
  rng : ∀ c ∈ f, ∀ x ∈ c, 0 ≤ x ∧ x < n
  once : (alls f).Nodup
theorem rd_in {c : List Int} {i : Nat} (h : i < c.length) : rdD 0 c (i : Int) ∈ c := by rw [rd_get _ _ _ h]; exact List.getElem_mem h
theorem fine_of {n : Int} {f : List (List Int)} (h : chk n f = 0) : Fine n f := by
  unfold chk at h
  split at h
  · cases h
  · split at h
    · cases h
    · rename_i h2
      split at h
      · rename_i h3
        simp only [Bool.not_eq_true, List.any_eq_false, List.mem_range] at h2
        have h2' : ∀ c ∈ f, badF n c = false := fun c hc => by
          obtain ⟨i, hi, rfl⟩ := List.getElem_of_mem hc
          have := h2 i hi
          rw [fc_get hi] at this
          simpa using this
        have key : ∀ c ∈ f, 3 ≤ c.length ∧ ∀ j, j < c.length → bad1 n c j = false := fun c hc => by
          have := h2' c hc
          unfold badF at this
          rw [Bool.or_eq_false_iff, decide_eq_false_iff_not, List.any_eq_false] at this
          exact ⟨by omega, fun j hj => by have := this.1 j (List.mem_range.2 hj); simpa using this⟩
        refine ⟨fun c hc => (key c hc).1, fun c hc => ?_, fun c hc x hx => ?_, h3⟩
        · refine List.pairwise_iff_getElem.2 fun i j hi hj hij he => ?_
          have := (key c hc).2 j hj
          unfold bad1 at this
          rw [decide_eq_false_iff_not] at this
          apply this
          refine .inr (.inr ?_)
          rw [rd_get _ _ _ hj, ← he]
          exact List.mem_take_iff_getElem.2 ⟨i, by omega, rfl⟩
        · obtain ⟨j, hj, rfl⟩ := List.getElem_of_mem hx
          have := (key c hc).2 j hj
          unfold bad1 at this
          rw [decide_eq_false_iff_not, rd_get _ _ _ hj] at this
          omega
      · cases h
theorem ed_ne {c : List Int} (h3 : 2 ≤ c.length) (hn : c.Nodup) {i : Nat} (hi : i < c.length) : (ed c i).1 ≠ (ed c i).2 := by
  show rdD 0 c (i : Int) ≠ nx c i
  unfold nx
  have hm : (i + 1) % c.length < c.length := Nat.mod_lt _ (by omega)
  rw [rd_get _ _ _ hi, rd_get _ _ _ hm]
  intro he
  have hne : i ≠ (i + 1) % c.length := by
    by_cases e : i + 1 = c.length
    · rw [e, Nat.mod_self]; omega
    · rw [Nat.mod_eq_of_lt (by omega)]; omega
  rcases Nat.lt_or_gt_of_ne hne with h | h
  · exact List.pairwise_iff_getElem.1 hn i _ hi hm h he
  · exact List.pairwise_iff_getElem.1 hn _ i hm hi h he.symm
theorem mem_alls {f : List (List Int)} {e : Pt} : e ∈ alls f ↔ ∃ c ∈ f, ∃ i, i < c.length ∧ ed c i = e := by
  unfold alls eds
  simp only [List.mem_flatMap, List.mem_map, List.mem_range]
theorem Fine.ne {n : Int} {f : List (List Int)} (F : Fine n f) {e : Pt} (h : e ∈ alls f) : e.1 ≠ e.2 := by
  obtain ⟨c, hc, i, hi, rfl⟩ := mem_alls.1 h
  exact ed_ne (by have := F.big c hc; omega) (F.nd c hc) hi
theorem mem_ups {n : Int} {f : List (List Int)} (F : Fine n f) (s : Pt) : s ∈ ups f ↔ ∃ e ∈ alls f, up e = s := by
  unfold ups
  rw [List.mem_filterMap]
  constructor
  · rintro ⟨p, hp, h⟩
    unfold upK at h
    split at h
    · injection h with h
      exact ⟨p.1, by rw [← keys_tab]; exact List.mem_map_of_mem hp, h⟩
    · cases h
  · rintro ⟨e, he, rfl⟩
    have hk := he
    rw [← keys_tab] at hk
    obtain ⟨p, hp, rfl⟩ := List.mem_map.1 hk
    by_cases h1 : p.1.1 < p.1.2 ∨ rv p.1 ∉ (tab f).map (·.1)
    · exact ⟨p, hp, by rw [upK, if_pos h1]⟩
    · have h2 : rv p.1 ∈ (tab f).map (·.1) := by
        apply Decidable.byContradiction
        intro h
        exact h1 (.inr h)
      have h3 : ¬p.1.1 < p.1.2 := fun h => h1 (.inl h)
      have hne := F.ne he
      obtain ⟨q, hq, e⟩ := List.mem_map.1 h2
      refine ⟨q, hq, ?_⟩
      rw [upK, if_pos (.inl (by rw [e]; show p.1.2 < p.1.1; omega)), e, up_rv]
theorem ups_nodup {n : Int} {f : List (List Int)} (F : Fine n f) : (ups f).Nodup := by
  unfold ups
  refine List.pairwise_filterMap.2 ?_
  have hk : (tab f).Pairwise fun p q => p.1 ≠ q.1 := by
    have := F.once
    rw [← keys_tab] at this
    exact List.pairwise_map.1 this
  have hmem : ∀ p ∈ tab f, p.1.1 ≠ p.1.2 := fun p hp => F.ne (by rw [← keys_tab]; exact List.mem_map_of_mem hp)
  refine List.Pairwise.imp_of_mem ?_ hk
  intro p q hp hq hne u hu v hv e
  subst e
  unfold upK at hu hv
  split at hu
  case isFalse => cases hu
  rename_i c1
  split at hv
  case isFalse => cases hv
  rename_i c2
  injection hu with hu
  injection hv with hv
  have np := hmem p hp
  have nq := hmem q hq
  have e : up p.1 = up q.1 := hu.trans hv.symm
  have hin : ∀ r ∈ tab f, r.1 ∈ (tab f).map (·.1) := fun r hr => List.mem_map_of_mem hr
  by_cases a : p.1.1 < p.1.2 <;> by_cases b : q.1.1 < q.1.2
  · rw [up_lt a, up_lt b] at e; exact hne e
  · have b' : q.1.2 < q.1.1 := by omega
    rw [up_lt a, up_gt b'] at e
    refine (c2.resolve_left b) ?_
    rw [← e]; exact hin p hp
  · have a' : p.1.2 < p.1.1 := by omega
    rw [up_gt a', up_lt b] at e
    refine (c1.resolve_left a) ?_
    rw [e]; exact hin q hq
  · have a' : p.1.2 < p.1.1 := by omega
    have b' : q.1.2 < q.1.1 := by omega
    rw [up_gt a', up_gt b'] at e
    have : p.1 = q.1 := by
      have h1 : (rv p.1).1 = (rv q.1).1 := by rw [e]
      have h2 : (rv p.1).2 = (rv q.1).2 := by rw [e]
      exact Prod.ext h2 h1
    exact hne this
theorem edgs_srt (f : List (List Int)) : Srt (edgs f) := by
  unfold edgs
  split
  · rename_i h; exact srtL_srt (ups_nodup (fine_of h))
  · exact List.Pairwise.nil
theorem mem_edgs {f : List (List Int)} (h : chk 1048576 f = 0) (s : Pt) : s ∈ edgs f ↔ ∃ e ∈ alls f, up e = s := by
  rw [edgs, if_pos h, (srtL_perm _).mem_iff, mem_ups (fine_of h)]
end Go.Proofs.Ytiejhpighhjgiaa.Pure
