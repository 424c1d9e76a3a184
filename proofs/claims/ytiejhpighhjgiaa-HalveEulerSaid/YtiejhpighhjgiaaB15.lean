/- The edges of what faces come to. -/
import Derived.Test.YtiejhpighhjgiaaB14
set_option linter.unusedVariables false
set_option linter.unusedSimpArgs false
set_option linter.unusedSectionVars false
namespace Go.Proofs.Ytiejhpighhjgiaa.Pure
open Go.RowKit Go.Proofs.Ytiejhpighhjgiaa.AM

/-- An edge's middle, by its number; its halves. -/
def eN (np : Nat) (L : List Pt) (e : Pt) : Int := ((np + ix L (up e) : Nat) : Int)
def ha (np : Nat) (L : List Pt) (e : Pt) : Pt := (e.1, eN np L e)
def hb (np : Nat) (L : List Pt) (e : Pt) : Pt := (eN np L e, e.2)
theorem prv_nxt {n k : Nat} (h : k < n) : ((k + 1) % n + n - 1) % n = k := by
  by_cases e : k + 1 = n
  · rw [e, Nat.mod_self, Nat.mod_eq_of_lt (by omega)]; omega
  · rw [Nat.mod_eq_of_lt (a := k + 1) (by omega), show k + 1 + n - 1 = k + n by omega, Nat.add_mod_right, Nat.mod_eq_of_lt h]
section
variable {p : List Pt} {f : List (List Int)} (h : chk p.length f = 0)
include h
theorem mem_outs (x : Pt) : x ∈ alls (outs p.length (edgs f) f f.length) ↔ ∃ i k, i < f.length ∧ k < (fc f i).length ∧ (x = ha p.length (edgs f) (ed (fc f i) k) ∨ x = (eN p.length (edgs f) (ed (fc f i) k), ((p.length + (edgs f).length + i : Nat) : Int)) ∨ x = (((p.length + (edgs f).length + i : Nat) : Int), eN p.length (edgs f) (ed (fc f i) k)) ∨ x = hb p.length (edgs f) (ed (fc f i) k)) := by
  rw [alls_outs h, List.mem_flatMap]
  have hprev : ∀ {i k : Nat}, k < (fc f i).length → ((p.length + ix (edgs f) (up (rdD 0 (fc f i) (k : Int), pv (fc f i) k)) : Nat) : Int) = eN p.length (edgs f) (ed (fc f i) ((k + (fc f i).length - 1) % (fc f i).length)) ∧ rdD 0 (fc f i) (k : Int) = (ed (fc f i) ((k + (fc f i).length - 1) % (fc f i).length)).2 := by
    intro i k hk
    rw [pv_ed hk]
    refine ⟨?_, rfl⟩
    unfold eN
    rw [up_swap]
  constructor
  · rintro ⟨i, hi, hx⟩
    rw [List.mem_range] at hi
    obtain ⟨k, hk, hx⟩ := List.mem_flatMap.1 hx
    rw [List.mem_range] at hk
    have hk' : (k + (fc f i).length - 1) % (fc f i).length < (fc f i).length := Nat.mod_lt _ (by omega)
    rw [eds_row h _ _ _ rfl] at hx
    simp only [List.mem_cons, List.not_mem_nil, or_false] at hx
    obtain ⟨e1, e2⟩ := hprev (i := i) hk
    rcases hx with rfl | rfl | rfl | rfl
    · exact ⟨i, k, hi, hk, .inl rfl⟩
    · exact ⟨i, k, hi, hk, .inr (.inl rfl)⟩
    · rw [e1]
      exact ⟨i, _, hi, hk', .inr (.inr (.inl rfl))⟩
    · rw [e1]
      refine ⟨i, _, hi, hk', .inr (.inr (.inr ?_))⟩
      unfold hb
      rw [← e2]
  · rintro ⟨i, k, hi, hk, hx⟩
    have hk' : (k + 1) % (fc f i).length < (fc f i).length := Nat.mod_lt _ (by omega)
    obtain ⟨e1, e2⟩ := hprev (i := i) hk'
    rw [prv_nxt hk] at e1 e2
    rcases hx with rfl | rfl | rfl | rfl
    · refine ⟨i, List.mem_range.2 hi, List.mem_flatMap.2 ⟨k, List.mem_range.2 hk, ?_⟩⟩
      rw [eds_row h _ _ _ rfl]
      exact List.mem_cons_self
    · refine ⟨i, List.mem_range.2 hi, List.mem_flatMap.2 ⟨k, List.mem_range.2 hk, ?_⟩⟩
      rw [eds_row h _ _ _ rfl]
      exact List.mem_cons_of_mem _ List.mem_cons_self
    · refine ⟨i, List.mem_range.2 hi, List.mem_flatMap.2 ⟨_, List.mem_range.2 hk', ?_⟩⟩
      rw [eds_row h _ _ _ rfl, e1]
      exact List.mem_cons_of_mem _ (List.mem_cons_of_mem _ List.mem_cons_self)
    · refine ⟨i, List.mem_range.2 hi, List.mem_flatMap.2 ⟨_, List.mem_range.2 hk', ?_⟩⟩
      rw [eds_row h _ _ _ rfl, e1, e2]
      exact List.mem_cons_of_mem _ (List.mem_cons_of_mem _ (List.mem_cons_of_mem _ List.mem_cons_self))
theorem ed_mem {i k : Nat} (hi : i < f.length) (hk : k < (fc f i).length) : ed (fc f i) k ∈ alls f := mem_alls.2 ⟨_, by rw [fc_get hi]; exact List.getElem_mem hi, k, hk, rfl⟩
theorem alls_ed {e : Pt} (he : e ∈ alls f) : ∃ i k, i < f.length ∧ k < (fc f i).length ∧ e = ed (fc f i) k := by
  obtain ⟨c, hc, k, hk, rfl⟩ := mem_alls.1 he
  obtain ⟨i, hi, rfl⟩ := List.getElem_of_mem hc
  exact ⟨i, k, hi, by rw [fc_get hi]; exact hk, by rw [fc_get hi]⟩
theorem up_mem {e : Pt} (he : e ∈ alls f) : up e ∈ edgs f := (mem_edgs (chk_mono h) _).2 ⟨e, he, rfl⟩
theorem eN_rng {e : Pt} (he : e ∈ alls f) : (p.length : Int) ≤ eN p.length (edgs f) e ∧ eN p.length (edgs f) e < ((p.length + (edgs f).length : Nat) : Int) := by
  have := ix_lt (up_mem h he)
  unfold eN
  omega
theorem eN_inj {e e' : Pt} (he : e ∈ alls f) (he' : e' ∈ alls f) (hx : eN p.length (edgs f) e = eN p.length (edgs f) e') : up e = up e' := by
  unfold eN at hx
  exact ix_inj (up_mem h he) (up_mem h he') (by omega)
theorem alls_rng {e : Pt} (he : e ∈ alls f) : (0 ≤ e.1 ∧ e.1 < (p.length : Int)) ∧ 0 ≤ e.2 ∧ e.2 < (p.length : Int) := by
  have F := fine_of h
  obtain ⟨c, hc, i, hi, rfl⟩ := mem_alls.1 he
  exact ⟨F.rng c hc _ (rd_in hi), F.rng c hc _ (rd_in (Nat.mod_lt _ (by omega)))⟩
/-- Each edge of what faces come to, once. -/
def spk (np : Nat) (L : List Pt) (f : List (List Int)) : List Pt := (List.range f.length).flatMap fun i => (List.range (fc f i).length).map fun k => (eN np L (ed (fc f i) k), ((np + L.length + i : Nat) : Int))
def hlf (np : Nat) (L : List Pt) : List Pt := L.flatMap fun s => [(s.1, ((np + ix L s : Nat) : Int)), (s.2, ((np + ix L s : Nat) : Int))]
omit h in
theorem spk_len (np : Nat) (L : List Pt) (f : List (List Int)) : (spk np L f).length = (alls f).length := by
  have e : alls f = (List.range f.length).flatMap fun i => eds (fc f i) := by
    have := keys_tab f
    rw [← this]
    unfold tab tabTo
    rw [List.map_flatMap]
    congr 1
    funext i
    rw [List.map_map]
    exact List.map_id _
  rw [e]
  unfold spk
  rw [List.length_flatMap, List.length_flatMap]
  congr 1
  refine List.map_congr_left fun i _ => ?_
  rw [List.length_map, List.length_range, eds_len]
omit h in
theorem hlf_len (np : Nat) (L : List Pt) : (hlf np L).length = 2 * L.length := by
  unfold hlf
  rw [List.length_flatMap]
  have : ∀ (l : List Pt), (l.map fun s => ([(s.1, ((np + ix L s : Nat) : Int)), (s.2, ((np + ix L s : Nat) : Int))] : List Pt).length).sum = 2 * l.length := by
    intro l
    induction l with
    | nil => rfl
    | cons s l ih => rw [List.map_cons, List.sum_cons, ih]; simp; omega
  exact this L
theorem edges_outs (hbig : (plc p f).length ≤ 1048576) : (edgs (outs p.length (edgs f) f f.length)).length = 2 * (edgs f).length + (alls f).length := by
  have F := fine_of h
  have hch' := chk_mono h
  have hq := chk_mono (chk_of ⟨by omega, by omega⟩ (fine_outs h))
  have hperm : (edgs (outs p.length (edgs f) f f.length)).Perm (hlf p.length (edgs f) ++ spk p.length (edgs f) f) := by
    refine (List.perm_ext_iff_of_nodup (srt_nodup (edgs_srt _)) ?_).2 fun x => ?_
    · refine List.nodup_append.2 ⟨?_, ?_, ?_⟩
      · refine List.pairwise_flatMap.2 ⟨fun s hs => ?_, ?_⟩
        · obtain ⟨e, he, rfl⟩ := (mem_edgs hch' s).1 hs
          have hne := F.ne he
          have : (up e).1 ≠ (up e).2 := by
            rcases Int.lt_or_lt_of_ne hne with hlt | hgt
            · rw [up_lt hlt]; exact hne
            · rw [up_gt hgt]; exact fun e => hne e.symm
          simp only [List.pairwise_cons, List.mem_cons, List.not_mem_nil, or_false, forall_eq, List.Pairwise.nil, and_true, ne_eq, Prod.mk.injEq]
          exact ⟨this, fun _ h => h.elim⟩
        · refine List.Pairwise.imp_of_mem ?_ (srt_nodup (edgs_srt f))
          intro s t hs ht hne x hx y hy hxy
          have : ix (edgs f) s ≠ ix (edgs f) t := fun e => hne (ix_inj hs ht e)
          simp only [List.mem_cons, List.not_mem_nil, or_false] at hx hy
          rcases hx with rfl | rfl <;> rcases hy with rfl | rfl <;> rw [Prod.mk.injEq] at hxy <;> omega
      · refine List.pairwise_flatMap.2 ⟨fun i hi => List.pairwise_map.2 ?_, ?_⟩
        · rw [List.mem_range] at hi
          refine List.Pairwise.imp_of_mem ?_ (List.nodup_range (n := (fc f i).length))
          intro k l hk hl hne hxy
          rw [List.mem_range] at hk hl
          have hm : fc f i ∈ f := by rw [fc_get hi]; exact List.getElem_mem hi
          exact hne (ed_up (F.big _ hm) (F.nd _ hm) hk hl (eN_inj h (ed_mem h hi hk) (ed_mem h hi hl) (congrArg (·.1) hxy)))
        · refine List.Pairwise.imp_of_mem ?_ (List.nodup_range (n := f.length))
          intro i j hi hj hne x hx y hy hxy
          obtain ⟨k, _, rfl⟩ := List.mem_map.1 hx
          obtain ⟨l, _, rfl⟩ := List.mem_map.1 hy
          rw [Prod.mk.injEq] at hxy
          omega
      · intro x hx y hy hxy
        subst hxy
        obtain ⟨s, hs, hx⟩ := List.mem_flatMap.1 hx
        obtain ⟨i, _, hy⟩ := List.mem_flatMap.1 hy
        obtain ⟨k, _, hy⟩ := List.mem_map.1 hy
        have := ix_lt hs
        simp only [List.mem_cons, List.not_mem_nil, or_false] at hx
        rcases hx with rfl | rfl <;> rw [Prod.mk.injEq] at hy <;> omega
    · rw [mem_edgs hq, List.mem_append]
      constructor
      · rintro ⟨e, he, rfl⟩
        obtain ⟨i, k, hi, hk, he⟩ := (mem_outs h e).1 he
        have hme := ed_mem h hi hk
        have hr := alls_rng h hme
        have hN := eN_rng h hme
        have h1 : ∀ a : Int, a < (p.length : Int) → up (a, eN p.length (edgs f) (ed (fc f i) k)) = (a, eN p.length (edgs f) (ed (fc f i) k)) := fun a ha => up_lt (by dsimp only; omega)
        have hin : ∀ a : Int, a = (ed (fc f i) k).1 ∨ a = (ed (fc f i) k).2 → (a, eN p.length (edgs f) (ed (fc f i) k)) ∈ hlf p.length (edgs f) := by
          intro a ha
          refine List.mem_flatMap.2 ⟨up (ed (fc f i) k), up_mem h hme, ?_⟩
          have : a = (up (ed (fc f i) k)).1 ∨ a = (up (ed (fc f i) k)).2 := by
            rcases Int.lt_trichotomy (ed (fc f i) k).1 (ed (fc f i) k).2 with hlt | he | hgt
            · rw [up_lt hlt]; exact ha
            · exact absurd he (F.ne hme)
            · rw [up_gt hgt]; exact ha.symm
          rcases this with rfl | rfl
          · exact List.mem_cons_self
          · exact List.mem_cons_of_mem _ List.mem_cons_self
        have hsp : (eN p.length (edgs f) (ed (fc f i) k), ((p.length + (edgs f).length + i : Nat) : Int)) ∈ spk p.length (edgs f) f :=
          List.mem_flatMap.2 ⟨i, List.mem_range.2 hi, List.mem_map.2 ⟨k, List.mem_range.2 hk, rfl⟩⟩
        rcases he with rfl | rfl | rfl | rfl
        · left
          rw [show up (ha p.length (edgs f) (ed (fc f i) k)) = _ from h1 _ hr.1.2]
          exact hin _ (.inl rfl)
        · right
          rw [up_lt (by dsimp only; omega)]
          exact hsp
        · right
          rw [up_gt (by dsimp only; omega)]
          exact hsp
        · left
          rw [show up (hb p.length (edgs f) (ed (fc f i) k)) = (_, _) from (up_swap _ _).trans (h1 _ hr.2.2)]
          exact hin _ (.inr rfl)
      · rintro (hx | hx)
        · obtain ⟨s, hs, hx⟩ := List.mem_flatMap.1 hx
          obtain ⟨e, he, rfl⟩ := (mem_edgs hch' s).1 hs
          obtain ⟨i, k, hi, hk, rfl⟩ := alls_ed h he
          have hr := alls_rng h he
          have hN := eN_rng h he
          have e1 : (ha p.length (edgs f) (ed (fc f i) k)) ∈ alls (outs p.length (edgs f) f f.length) := (mem_outs h _).2 ⟨i, k, hi, hk, .inl rfl⟩
          have e2 : (hb p.length (edgs f) (ed (fc f i) k)) ∈ alls (outs p.length (edgs f) f f.length) := (mem_outs h _).2 ⟨i, k, hi, hk, .inr (.inr (.inr rfl))⟩
          have u1 : up (ha p.length (edgs f) (ed (fc f i) k)) = ((ed (fc f i) k).1, eN p.length (edgs f) (ed (fc f i) k)) := up_lt (by unfold ha; dsimp only; omega)
          have u2 : up (hb p.length (edgs f) (ed (fc f i) k)) = ((ed (fc f i) k).2, eN p.length (edgs f) (ed (fc f i) k)) := up_gt (by unfold hb; dsimp only; omega)
          have : x = ((ed (fc f i) k).1, eN p.length (edgs f) (ed (fc f i) k)) ∨ x = ((ed (fc f i) k).2, eN p.length (edgs f) (ed (fc f i) k)) := by
            simp only [List.mem_cons, List.not_mem_nil, or_false] at hx
            rcases Int.lt_trichotomy (ed (fc f i) k).1 (ed (fc f i) k).2 with hlt | he' | hgt
            · have hu := up_lt hlt
              rcases hx with rfl | rfl
              · left; exact Prod.ext (by dsimp only; rw [hu]) rfl
              · right; exact Prod.ext (by dsimp only; rw [hu]) rfl
            · exact absurd he' (F.ne he)
            · have hu := up_gt hgt
              rcases hx with rfl | rfl
              · right; exact Prod.ext (by dsimp only; rw [hu]; rfl) rfl
              · left; exact Prod.ext (by dsimp only; rw [hu]; rfl) rfl
          rcases this with rfl | rfl
          · exact ⟨_, e1, u1⟩
          · exact ⟨_, e2, u2⟩
        · obtain ⟨i, hi, hx⟩ := List.mem_flatMap.1 hx
          obtain ⟨k, hk, rfl⟩ := List.mem_map.1 hx
          rw [List.mem_range] at hi hk
          have hN := eN_rng h (ed_mem h hi hk)
          exact ⟨_, (mem_outs h _).2 ⟨i, k, hi, hk, .inr (.inl rfl)⟩, up_lt (by dsimp only; omega)⟩
  rw [hperm.length_eq, List.length_append, hlf_len, spk_len]
end
end Go.Proofs.Ytiejhpighhjgiaa.Pure
