/- Faces that may be. -/
import Derived.Test.YtiejhpighhjgiaaB0
set_option linter.unusedVariables false
set_option linter.unusedSimpArgs false
namespace Go.Proofs.Ytiejhpighhjgiaa.Pure
open Go.RowKit Go.Proofs.Ytiejhpighhjgiaa.AM

/-- The next place of a face; its edges; all edges. -/
def nx (c : List Int) (i : Nat) : Int := rdD 0 c (((i + 1) % c.length : Nat) : Int)
def ed (c : List Int) (i : Nat) : Pt := (rdD 0 c (i : Int), nx c i)
def eds (c : List Int) : List Pt := (List.range c.length).map (ed c)
def alls (f : List (List Int)) : List Pt := f.flatMap eds
def fc (f : List (List Int)) (i : Nat) : List Int := rdD [] f (i : Int)
theorem fc_get {f : List (List Int)} {i : Nat} (h : i < f.length) : fc f i = f[i] := rd_get [] f i h
theorem eds_len (c : List Int) : (eds c).length = c.length := by simp [eds]
theorem eds_get (c : List Int) (i : Nat) (h : i < c.length) : (eds c)[i]'(by rw [eds_len]; exact h) = ed c i := by simp [eds]
def bad1 (n : Int) (c : List Int) (j : Nat) : Bool := decide (rdD 0 c (j : Int) < 0 ∨ n ≤ rdD 0 c (j : Int) ∨ rdD 0 c (j : Int) ∈ c.take j)
def badF (n : Int) (c : List Int) : Bool := (List.range c.length).any (bad1 n c) || decide (c.length < 3)
def chk (n : Int) (f : List (List Int)) : Int := if n < 0 ∨ 1048576 < n then 2 else if (List.range f.length).any (fun i => badF n (fc f i)) = true then 2 else if (alls f).Nodup then 0 else 80
def tabTo (f : List (List Int)) (n : Nat) : List (Pt × Int) := (List.range n).flatMap fun i => (eds (fc f i)).map fun e => (e, (i : Int))
def tab (f : List (List Int)) : List (Pt × Int) := tabTo f f.length
theorem keys_tabTo {f : List (List Int)} : ∀ {n : Nat}, n ≤ f.length → (tabTo f n).map (·.1) = (f.take n).flatMap eds
  | 0, _ => by simp [tabTo]
  | n + 1, h => by
    have ih := keys_tabTo (f := f) (n := n) (by omega)
    unfold tabTo at ih ⊢
    rw [List.range_succ, List.flatMap_append, List.map_append, ih, flat_snoc eds f n (by omega), ← fc_get (by omega : n < f.length)]
    simp only [List.flatMap_cons, List.flatMap_nil, List.append_nil, List.map_map]
    congr 1
    exact List.map_id _
theorem keys_tab (f : List (List Int)) : (tab f).map (·.1) = alls f := by rw [tab, keys_tabTo (Nat.le_refl _), List.take_length, alls]
theorem tabTo_succ (f : List (List Int)) (n : Nat) : tabTo f (n + 1) = tabTo f n ++ (eds (fc f n)).map fun e => (e, (n : Int)) := by simp [tabTo, List.range_succ]

theorem index_f (m : Nat) (l : List Int) (x : Int) (hl : l.length ≤ 900) : ∃ i, g_slices_Index_int_int (m + 1000) l x = some i ∧ (i ≥ 0 ↔ x ∈ l) := by
  have key : ∀ (q i : Nat), i ≤ l.length → l.length - i < q → ∃ r, loopN (α := ((List Int) × (Int × (Int × Int)))) (fun (x1, x2, x3, x4) next0 =>
    bif decide (x4 < x3) then
     gd (inb x4 x1.length) <|
     bif decide (x2 = (rdD 0 x1 x4)) then
      some x4
     else
      next0 (x1, x2, x3, w64 (x4 + 1))
    else
     some (-1)) q (l, x, (l.length : Int), (i : Int)) = some r ∧ (r ≥ 0 ↔ x ∈ l.drop i) := by
    intro q
    induction q with
    | zero => intro i _ h; omega
    | succ q ih =>
      intro i hi hq
      rw [loop_s]
      by_cases e : i = l.length
      · subst e
        exact ⟨-1, by simp only []; rw [bif_F (by omega)], by simp⟩
      · have hi' : i < l.length := by omega
        dsimp only
        rw [bif_T (by omega), gd_t (inb_t ⟨by omega, by omega⟩), rd_get _ l i hi', w64_id (by omega) (by omega)]
        have hd : l.drop i = l[i] :: l.drop (i + 1) := List.drop_eq_getElem_cons hi'
        by_cases hx : x = l[i]
        · rw [bif_T hx]
          exact ⟨_, rfl, by rw [hd, List.mem_cons]; exact ⟨fun _ => .inl hx, fun _ => by omega⟩⟩
        · rw [bif_F hx]
          obtain ⟨r, h1, h2⟩ := ih (i + 1) (by omega) (by omega)
          exact ⟨r, h1, by rw [h2, hd, List.mem_cons]; exact ⟨.inr, fun h => h.resolve_left hx⟩⟩
  obtain ⟨r, h1, h2⟩ := key (m + 1000) 0 (Nat.zero_le _) (by omega)
  exact ⟨r, h1, by simpa using h2⟩
theorem contains_f (m : Nat) (l : List Int) (x : Int) (hl : l.length ≤ 900) : g_slices_Contains_int_int (m + 1000) l x = some (decide (x ∈ l)) := by
  obtain ⟨i, h1, h2⟩ := index_f m l x hl
  unfold g_slices_Contains_int_int b_slices_Contains_int_int
  rw [h1, bnd_s]
  congr 1
  rw [decide_eq_decide]
  exact h2
theorem edge_f (k : Nat) (c : List Int) (i : Nat) (h : i < c.length) (hl : c.length ≤ 900) : g_faces_edge k c (i : Int) = some (ed c i) := by
  have hm : (i + 1) % c.length < c.length := Nat.mod_lt _ (by omega)
  have e : (w64 ((i : Int) + 1)).tmod (c.length : Int) = (((i + 1) % c.length : Nat) : Int) := by
    rw [w64_id (by omega) (by omega), Int.tmod_eq_emod_of_nonneg (by omega), Int.natCast_emod]
    rfl
  unfold g_faces_edge
  rw [gd_t (inb_t ⟨by omega, by omega⟩), gd_nF (by omega), e, gd_t (inb_t ⟨by omega, by omega⟩)]
  rfl
theorem known_f (m : Nat) (n : Int) (f : List (List Int)) (hl : f.length ≤ 900) (hc : ∀ c ∈ f, c.length ≤ 900) : g_faces_known (m + 1000) n f = some (if chk n f = 0 then ((tab f, f), 0) else (([], []), chk n f)) := by
  unfold g_faces_known b_faces_known
  simp only [meet]
  have hfc : ∀ i, i < f.length → (fc f i).length ≤ 900 := fun i hi => by rw [fc_get hi]; exact hc _ (List.getElem_mem _)
  by_cases c0 : n < 0 ∨ 1048576 < n
  · have e : chk n f = 2 := by rw [chk, if_pos c0]
    rw [e, if_neg (by decide)]
    rcases c0 with h | h
    · rw [bif_T h]; rfl
    · rw [bif_F (by omega), decide_eq_true (by omega)]; rfl
  have e0 : chk n f = if (List.range f.length).any (fun i => badF n (fc f i)) = true then 2 else if (alls f).Nodup then 0 else 80 := by rw [chk, if_neg c0]
  rw [bif_F (by omega), decide_eq_false (by omega), cF]
  refine (loop_any (fun i => (n, f, ([], []), f, (f.length : Int), (i : Int))) f.length (fun i => badF n (fc f i)) (some (([], []), 2)) (some (if (alls f).Nodup then ((tab f, f), 0) else (([], []), 80))) ?_ ?_ (m + 1000) (by omega)).trans ?_
  · intro next
    dsimp only
    rw [bif_F (by omega)]
    -- the table
    refine loop_rel (fun r s v => ∃ i, i ≤ f.length ∧ ((tabTo f i).map (·.1)).Nodup ∧ r = f.length - i ∧ s = (([], []), (tabTo f i, f), f, (f.length : Int), (i : Int)) ∧ v = some (if (alls f).Nodup then ((tab f, f), 0) else (([], []), 80))) ?_ (m + 1000) f.length _ _ ⟨0, Nat.zero_le _, by simp [tabTo], rfl, rfl, rfl⟩ (by omega)
    rintro r s v ⟨i, hi, hnd, rfl, rfl, rfl⟩ next hn
    dsimp only
    by_cases e : i = f.length
    · subst e
      rw [bif_F (by omega)]
      have := hnd
      rw [show tabTo f f.length = tab f from rfl, keys_tab] at this
      rw [if_pos this]
      rfl
    · have hi' : i < f.length := by omega
      rw [bif_T (by omega), gd_t (inb_t ⟨by omega, by omega⟩), show rdD [] f (i : Int) = fc f i from rfl]
      have hcl := hfc i hi'
      refine loop_rel (fun r s v => ∃ j, j ≤ (fc f i).length ∧ ((tabTo f i ++ ((eds (fc f i)).take j).map fun e => (e, (i : Int))).map (·.1)).Nodup ∧ r = (fc f i).length - j ∧ s = (([], []), (tabTo f i ++ ((eds (fc f i)).take j).map fun e => (e, (i : Int)), f), (i : Int), fc f i, f, (f.length : Int), (i : Int), ((fc f i).length : Int), (j : Int)) ∧ v = some (if (alls f).Nodup then ((tab f, f), 0) else (([], []), 80))) ?_ (m + 1000) (fc f i).length _ _ ⟨0, Nat.zero_le _, by simpa using hnd, rfl, by simp, rfl⟩ (by omega)
      rintro r s v ⟨j, hj, hnd', rfl, rfl, rfl⟩ next' hn'
      dsimp only
      by_cases e' : j = (fc f i).length
      · subst e'
        rw [bif_F (by omega), w64_id (by omega) (by omega)]
        have e2 : tabTo f i ++ ((eds (fc f i)).take (fc f i).length).map (fun e => (e, (i : Int))) = tabTo f (i + 1) := by
          rw [tabTo_succ, List.take_of_length_le (by rw [eds_len]; exact Nat.le_refl _)]
        rw [e2] at hnd' ⊢
        exact hn (f.length - (i + 1)) _ _ (by omega) ⟨i + 1, by omega, hnd', rfl, rfl, rfl⟩
      · have hj' : j < (fc f i).length := by omega
        have hje : j < (eds (fc f i)).length := by rw [eds_len]; exact hj'
        rw [bif_T (by omega), edge_f _ _ _ hj' hcl, bnd_s]
        -- the keys so far, and the edge
        have hks : alls f = (tabTo f i ++ ((eds (fc f i)).take j).map (fun e => (e, (i : Int)))).map (·.1) ++ ed (fc f i) j :: ((eds (fc f i)).drop (j + 1) ++ (f.drop (i + 1)).flatMap eds) := by
          rw [List.map_append, keys_tabTo (by omega), List.map_map, alls]
          have e3 : ((fun x : Pt × Int => x.1) ∘ fun e => (e, (i : Int))) = id := rfl
          rw [e3, List.map_id]
          have e4 : f = f.take i ++ fc f i :: f.drop (i + 1) := by rw [fc_get hi']; simp
          have e5 : eds (fc f i) = (eds (fc f i)).take j ++ ed (fc f i) j :: (eds (fc f i)).drop (j + 1) := by
            rw [← eds_get _ _ hj']; simp
          conv => lhs; rw [e4, List.flatMap_append, List.flatMap_cons]
          conv => lhs; rw [e5]
          simp
        have hval : ∀ p ∈ tabTo f i ++ ((eds (fc f i)).take j).map (fun e => (e, (i : Int))), 0 ≤ p.2 := by
          intro p hp
          rw [List.mem_append] at hp
          rcases hp with hp | hp
          · obtain ⟨i', _, hp⟩ := List.mem_flatMap.1 hp
            obtain ⟨e, _, rfl⟩ := List.mem_map.1 hp
            exact Int.natCast_nonneg i'
          · obtain ⟨e, _, rfl⟩ := List.mem_map.1 hp
            exact Int.natCast_nonneg i
        have hmap : ((tabTo f i ++ ((eds (fc f i)).take (j + 1)).map (fun e => (e, (i : Int))))) = (tabTo f i ++ ((eds (fc f i)).take j).map (fun e => (e, (i : Int)))) ++ [(ed (fc f i) j, (i : Int))] := by
          rw [map_snoc _ _ _ hje, eds_get _ _ hj', List.append_assoc]
        have hn2 := hn' ((fc f i).length - (j + 1)) _ (some (if (alls f).Nodup then ((tab f, f), 0) else (([], []), 80))) (by omega) |> fun h => fun nd => h ⟨j + 1, by omega, nd, rfl, rfl, rfl⟩
        rw [hmap] at hn2
        generalize tabTo f i ++ ((eds (fc f i)).take j).map (fun e => (e, (i : Int))) = es at *
        show (bif hsP es (ed (fc f i) j) then (bif decide (lkP es (ed (fc f i) j) ≥ 0) then _ else _) else bif false then _ else gd (!(hsP es (ed (fc f i) j))) (next' (([], []), (es ++ [(ed (fc f i) j, (i : Int))], f), (i : Int), fc f i, f, (f.length : Int), (i : Int), ((fc f i).length : Int), w64 ((j : Int) + 1)))) = _
        rw [hs_mem]
        by_cases hin : ed (fc f i) j ∈ es.map (·.1)
        · rw [decide_eq_true hin, cT]
          obtain ⟨p, hp, _, h2⟩ := lk_mem hin
          rw [h2, bif_T (hval p hp)]
          have : ¬(alls f).Nodup := by
            rw [hks]
            intro h
            exact (List.nodup_append.1 h).2.2 _ hin _ List.mem_cons_self rfl
          rw [if_neg this]
        · rw [decide_eq_false hin, cF, cF]
          rw [w64_id (by omega) (by omega)]
          refine hn2 ?_
          rw [List.map_append]
          refine List.nodup_append.2 ⟨hnd', by simp, fun a ha b hb => ?_⟩
          simp only [List.map_cons, List.map_nil, List.mem_singleton] at hb
          rintro rfl
          exact hin (hb ▸ ha)
  · intro i hi next
    dsimp only
    rw [bif_T (by omega), gd_t (inb_t ⟨by omega, by omega⟩), show rdD [] f (i : Int) = fc f i from rfl]
    have hcl := hfc i hi
    refine (loop_any (fun j => (n, f, ([], []), fc f i, f, (f.length : Int), (i : Int), fc f i, ((fc f i).length : Int), (j : Int))) (fc f i).length (bad1 n (fc f i)) (some (([], []), 2)) (bif decide ((fc f i).length < 3) then some (([], []), 2) else next (n, f, ([], []), f, (f.length : Int), ((i + 1 : Nat) : Int))) ?_ ?_ (m + 1000) (by omega)).trans ?_
    · intro next
      dsimp only
      rw [bif_F (by omega), w64_id (by omega) (by omega)]
      by_cases h3 : (fc f i).length < 3
      · rw [bif_T h3, bif_T (by omega)]
      · rw [bif_F h3, bif_F (by omega)]
        rfl
    · intro j hj next
      dsimp only
      rw [bif_T (by omega), gd_t (inb_t ⟨by omega, by omega⟩), w64_id (by omega) (by omega)]
      unfold bad1
      generalize hx : rdD 0 (fc f i) (j : Int) = x
      by_cases h1 : x < 0
      · rw [bif_T h1, cT, bif_T (.inl h1)]
      · rw [bif_F h1]
        by_cases h2 : x ≥ n
        · rw [bif_T h2, cT, bif_T (.inr (.inl h2))]
        · rw [bif_F h2, gd_T (by omega), gd_T (by omega)]
          have : tkL (fc f i) (j : Int) = (fc f i).take j := rfl
          rw [this, contains_f m _ _ (by rw [List.length_take]; omega), bnd_s]
          by_cases h3 : x ∈ (fc f i).take j
          · rw [bif_T h3, bif_T (.inr (.inr h3))]
          · rw [bif_F h3, bif_F (by rintro (h | h | h) <;> contradiction)]
            rfl
    · unfold badF
      cases (List.range (fc f i).length).any (bad1 n (fc f i)) <;> rfl
  · rw [e0]
    cases hb : (List.range f.length).any (fun i => badF n (fc f i)) with
    | true => rfl
    | false =>
      simp only [Bool.false_eq_true, if_false, cF]
      by_cases hnd : (alls f).Nodup
      · rw [if_pos hnd, if_pos hnd]; rfl
      · rw [if_neg hnd, if_neg hnd]; rfl
end Go.Proofs.Ytiejhpighhjgiaa.Pure
