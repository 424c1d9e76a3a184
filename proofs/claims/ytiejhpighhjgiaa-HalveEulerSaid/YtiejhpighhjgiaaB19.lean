/- Which face is in which part: the document's loops. -/
import Derived.Test.YtiejhpighhjgiaaB18
set_option linter.unusedVariables false
set_option linter.unusedSimpArgs false
set_option linter.unusedSectionVars false
namespace Go.Proofs.Ytiejhpighhjgiaa.Pure
open Go.RowKit Go.Proofs.Ytiejhpighhjgiaa.AM

theorem Low.refl (f : List (List Int)) (o : List Int) : Low f o o := fun _ _ => Int.le_refl _
theorem Low.trans {f : List (List Int)} {a b c : List Int} (h : Low f a b) (h' : Low f b c) : Low f a c := fun i hi => Int.le_trans (h i hi) (h' i hi)
/-- What has been gone through in a round. -/
def Gone (f : List (List Int)) (o o0 : List Int) (T : Nat → Nat → Nat → Prop) : Prop := ∀ i k j, i < f.length → k < (fc f i).length → j < f.length → T i k j → rv (ed (fc f i) k) ∈ eds (fc f j) → rdD 0 o (i : Int) ≤ rdD 0 o0 (j : Int) ∧ rdD 0 o (j : Int) ≤ rdD 0 o0 (i : Int)
/-- How many are named by themselves, ahead of one. -/
def rk (o : Nat → Nat) (v : Nat) : Nat := ((List.range v).filter fun j => decide (o j = j)).length
theorem rk_succ (o : Nat → Nat) (v : Nat) : rk o (v + 1) = if o v = v then rk o v + 1 else rk o v := by
  unfold rk
  rw [List.range_succ, List.filter_append, List.length_append]
  by_cases h : o v = v <;> simp [h]
theorem rk_le (o : Nat → Nat) (v : Nat) : rk o v ≤ v := by
  unfold rk
  have := List.length_filter_le (fun j => decide (o j = j)) (List.range v)
  simpa using this
structure PartOf (f : List (List Int)) (o : Nat → Nat) : Prop where
  le : ∀ i, i < f.length → o i ≤ i
  con : ∀ i, i < f.length → Con (Adj f) (o i) i
  min : ∀ i, i < f.length → ∀ j, Con (Adj f) j i → o i ≤ j
theorem PartOf.self {f : List (List Int)} {o : Nat → Nat} (h : PartOf f o) {i : Nat} (hi : i < f.length) : o (o i) = o i := by
  have h1 := h.le i hi
  have h2 := h.con i hi
  have h3 := h.min i hi (o (o i)) ((h.con (o i) (by omega)).trans h2)
  have h4 := h.le (o i) (by omega)
  omega
theorem parts_f (m : Nat) (f : List (List Int)) (hl : f.length ≤ 900) (hc : ∀ c ∈ f, c.length ≤ 900) (ht : (alls f).length ≤ 900) (hch : chk 1048576 f = 0) :
    ∃ r, g_parquetref11_Parts (m + 1000) f = some r ∧ ∃ o : Nat → Nat, PartOf f o ∧ r = (List.range f.length).map fun i => ((rk o (o i) : Nat) : Int) := by
  unfold g_parquetref11_Parts b_parquetref11_Parts
  simp only [meet]
  rw [rCheck_f m _ f hl hc ht, bnd_s, bif_nT hch, gd_T (by omega), gd_t (show fewI (f.length : Int) = true from few_t (by show f.length < _; omega))]
  have F := fine_of hch
  have hfc : ∀ i, i < f.length → (fc f i).length ≤ 900 := fun i hi => by rw [fc_get hi]; exact hc _ (List.getElem_mem _)
  generalize hQ : (fun r : List Int => ∃ o : Nat → Nat, PartOf f o ∧ r = (List.range f.length).map fun i => ((rk o (o i) : Nat) : Int)) = Q
  have hres : ∀ o : Nat → Nat, PartOf f o → Q ((List.range f.length).map fun i => ((rk o (o i) : Nat) : Int)) := fun o ho => by rw [← hQ]; exact ⟨o, ho, rfl⟩
  show ∃ r, _ = some r ∧ (fun r : List Int => ∃ o : Nat → Nat, PartOf f o ∧ r = (List.range f.length).map fun i => ((rk o (o i) : Nat) : Int)) r
  rw [hQ]
  clear hQ
  -- each by its own name
  refine loop_ex (fun q s => ∃ (i : Nat) (o : List Int), i ≤ f.length ∧ q = f.length - i ∧ s = (f, o, (i : Int)) ∧ o.length = f.length ∧ ∀ j, j < i → rdD 0 o (j : Int) = (j : Int)) Q ?_ (m + 1000) f.length _ ⟨0, _, Nat.zero_le _, rfl, rfl, by unfold rpL; simp, fun j hj => by omega⟩ (by omega)
  rintro q s ⟨i, o, hi, rfl, rfl, hol, ho⟩ next hn
  dsimp only
  by_cases e : i < f.length
  · rw [bif_T (by omega), gd_t (inb_t ⟨by omega, by omega⟩), w64_id (by omega) (by omega)]
    refine hn (f.length - (i + 1)) _ (by omega) ⟨i + 1, o.set i (i : Int), by omega, rfl, rfl, by simp [hol], fun j hj => ?_⟩
    rw [rd_set _ (by omega)]
    by_cases c : i = j
    · rw [if_pos c, c]
    · rw [if_neg c]; exact ho j (by omega)
  obtain rfl : i = f.length := by omega
  rw [bif_F (by omega)]
  clear hn next
  have hlab : Lab f o := ⟨hol, fun i hi => ⟨i, ho i hi, Nat.le_refl _, .refl _⟩⟩
  clear ho hol
  -- the rounds
  refine loop_ex (fun q s => ∃ (r : Nat) (o : List Int), r ≤ f.length ∧ q = f.length - r ∧ s = (f, o, (r : Int)) ∧ Lab f o ∧ ((∀ i, i < f.length → Stl f o i) ∨ r ≤ stN f o)) Q ?_ (m + 1000) f.length _ ⟨0, o, Nat.zero_le _, rfl, rfl, hlab, .inr (Nat.zero_le _)⟩ (by omega)
  clear hlab o
  rintro q s ⟨r, o, hr, rfl, rfl, hlab, hst⟩ next hn
  dsimp only
  by_cases e : r < f.length
  · rw [bif_T (by omega)]
    refine loop_ex (fun q s => ∃ (i : Nat) (o' : List Int), i ≤ f.length ∧ q = f.length - i ∧ s = (f, o', (r : Int), (i : Int)) ∧ Lab f o' ∧ Low f o' o ∧ Gone f o' o (fun i' k' j' => i' < i)) Q ?_ (m + 1000) f.length _ ⟨0, o, Nat.zero_le _, rfl, rfl, hlab, Low.refl f o, fun _ _ _ _ _ _ ht _ => absurd ht (by omega)⟩ (by omega)
    rintro q s ⟨i, o1, hi, rfl, rfl, hlab1, hlow1, hg1⟩ next1 hn1
    dsimp only
    by_cases e1 : i < f.length
    · rw [bif_T (by omega)]
      have hci := hfc i e1
      refine loop_ex (fun q s => ∃ (k : Nat) (o' : List Int), k ≤ (fc f i).length ∧ q = (fc f i).length - k ∧ s = (f, o', (r : Int), (i : Int), (k : Int)) ∧ Lab f o' ∧ Low f o' o ∧ Gone f o' o (fun i' k' j' => i' < i ∨ (i' = i ∧ k' < k))) Q ?_ (m + 1000) (fc f i).length _ ⟨0, o1, Nat.zero_le _, rfl, rfl, hlab1, hlow1, fun i' k' j' h1 h2 h3 h4 h5 => hg1 i' k' j' h1 h2 h3 (by omega) h5⟩ (by omega)
      rintro q s ⟨k, o2, hk, rfl, rfl, hlab2, hlow2, hg2⟩ next2 hn2
      dsimp only
      rw [gd_t (inb_t ⟨by omega, by omega⟩), show rdD [] f (i : Int) = fc f i from rfl]
      by_cases e2 : k < (fc f i).length
      · have inner : ∀ b : Int, b = nx (fc f i) k → ∃ res, loopN (α := ((List (List Int)) × ((List Int) × (Int × (Int × (Int × (Int × Int))))))) (fun (x27, x28, x29, x30, x31, x32, x33) next26 =>
             bif decide (x33 < (x27.length : Int)) then
              gd (inb x33 x27.length) <|
              gd (inb x30 x27.length) <|
              gd (inb x31 (rdD [] x27 x30).length) <|
              bnd (g_parquetref11_has (m + 1000) (rdD [] x27 x33) x32 (rdD 0 (rdD [] x27 x30) x31)) fun r34 =>
              bif r34 then
               gd (inb x30 x28.length) <|
               gd (inb x33 x28.length) <|
               gd (inb x30 x28.length) <|
               gd (inb x30 x28.length) <|
               gd (inb x33 x28.length) <|
               next26 (x27, stL (stL x28 x30 (mnI (rdD 0 x28 x30) (rdD 0 x28 x33))) x33 (rdD 0 (stL x28 x30 (mnI (rdD 0 x28 x30) (rdD 0 x28 x33))) x30), x29, x30, x31, x32, w64 (x33 + 1))
              else
               next26 (x27, x28, x29, x30, x31, x32, w64 (x33 + 1))
             else
              next2 (x27, x28, x29, x30, w64 (x31 + 1))) (m + 1000) (f, o2, (r : Int), (i : Int), (k : Int), b, 0) = some res ∧ Q res := by
          rintro b rfl
          refine loop_ex (fun q s => ∃ (j : Nat) (o' : List Int), j ≤ f.length ∧ q = f.length - j ∧ s = (f, o', (r : Int), (i : Int), (k : Int), nx (fc f i) k, (j : Int)) ∧ Lab f o' ∧ Low f o' o ∧ Gone f o' o (fun i' k' j' => i' < i ∨ (i' = i ∧ (k' < k ∨ (k' = k ∧ j' < j))))) Q ?_ (m + 1000) f.length _ ⟨0, o2, Nat.zero_le _, rfl, rfl, hlab2, hlow2, fun i' k' j' h1 h2 h3 h4 h5 => hg2 i' k' j' h1 h2 h3 (by omega) h5⟩ (by omega)
          rintro q s ⟨j, o3, hj, rfl, rfl, hlab3, hlow3, hg3⟩ next3 hn3
          dsimp only
          by_cases e3 : j < f.length
          · have hl3 := hlab3.len
            rw [bif_T (by omega), gd_t (inb_t ⟨by omega, by omega⟩), gd_t (inb_t ⟨by omega, by omega⟩), show rdD [] f (i : Int) = fc f i from rfl, show rdD [] f (j : Int) = fc f j from rfl, gd_t (inb_t ⟨by omega, by omega⟩), has_f m _ _ _ (hfc j e3), bnd_s, w64_id (by omega) (by omega)]
            by_cases hh : rv (ed (fc f i) k) ∈ eds (fc f j)
            · have hadj : Adj f i j := ⟨e1, e3, ed (fc f i) k, mem_eds.2 ⟨k, e2, rfl⟩, hh⟩
              obtain ⟨m1, m2, m3, m4⟩ := mrg_lab hlab3 hadj
              rw [bif_T (show (nx (fc f i) k, rdD 0 (fc f i) (k : Int)) ∈ eds (fc f j) from hh), gd_t (inb_t ⟨by omega, by omega⟩), gd_t (inb_t ⟨by omega, by omega⟩), gd_t (inb_t ⟨by omega, by omega⟩), gd_t (inb_t ⟨by omega, by omega⟩), gd_t (inb_t ⟨by omega, by omega⟩)]
              have hset : stL (stL o3 (i : Int) (mnI (rdD 0 o3 (i : Int)) (rdD 0 o3 (j : Int)))) (j : Int) (rdD 0 (stL o3 (i : Int) (mnI (rdD 0 o3 (i : Int)) (rdD 0 o3 (j : Int)))) (i : Int)) = mrg o3 i j := by
                unfold stL mrg
                simp only [Int.toNat_natCast]
                rw [rd_set _ (by omega), if_pos rfl]
              rw [hset]
              refine hn3 (f.length - (j + 1)) _ (by omega) ⟨j + 1, _, by omega, rfl, rfl, m1, m2.trans hlow3, fun i' k' j' h1 h2 h3 h4 h5 => ?_⟩
              by_cases c : i' = i ∧ k' = k ∧ j' = j
              · obtain ⟨rfl, rfl, rfl⟩ := c
                exact ⟨Int.le_trans m3 (hlow3 j' h3), Int.le_trans m4 (hlow3 i' h1)⟩
              · have := hg3 i' k' j' h1 h2 h3 (by omega) h5
                exact ⟨Int.le_trans (m2 i' h1) this.1, Int.le_trans (m2 j' h3) this.2⟩
            · rw [bif_F (show ¬(nx (fc f i) k, rdD 0 (fc f i) (k : Int)) ∈ eds (fc f j) from hh)]
              refine hn3 (f.length - (j + 1)) _ (by omega) ⟨j + 1, o3, by omega, rfl, rfl, hlab3, hlow3, fun i' k' j' h1 h2 h3 h4 h5 => ?_⟩
              by_cases c : i' = i ∧ k' = k ∧ j' = j
              · obtain ⟨rfl, rfl, rfl⟩ := c
                exact absurd h5 hh
              · exact hg3 i' k' j' h1 h2 h3 (by omega) h5
          · obtain rfl : j = f.length := by omega
            rw [bif_F (by omega), w64_id (by omega) (by omega)]
            exact hn2 ((fc f i).length - (k + 1)) _ (by omega) ⟨k + 1, o3, by omega, rfl, rfl, hlab3, hlow3, fun i' k' j' h1 h2 h3 h4 h5 => hg3 i' k' j' h1 h2 h3 (by omega) h5⟩
        rw [bif_T (by omega), gd_t (inb_t ⟨by omega, by omega⟩), gd_t (inb_t ⟨by omega, by omega⟩), gd_t (inb_t ⟨by omega, by omega⟩), w64_id (by omega) (by omega)]
        by_cases c1 : k + 1 < (fc f i).length
        · rw [bif_T (by omega), gd_t (inb_t ⟨by omega, by omega⟩), gd_t (inb_t ⟨by omega, by omega⟩)]
          exact inner _ (by rw [nx_eq e2, if_pos c1]; rfl)
        · rw [bif_F (by omega)]
          exact inner _ (by rw [nx_eq e2, if_neg c1])
      · obtain rfl : k = (fc f i).length := by omega
        rw [bif_F (by omega), w64_id (by omega) (by omega)]
        exact hn1 (f.length - (i + 1)) _ (by omega) ⟨i + 1, o2, by omega, rfl, rfl, hlab2, hlow2, fun i' k' j' h1 h2 h3 h4 h5 => hg2 i' k' j' h1 h2 h3 (if c : i' = i then (by subst c; exact .inr ⟨rfl, h2⟩) else .inl (by have h4' : i' < i + 1 := h4; omega)) h5⟩
    · obtain rfl : i = f.length := by omega
      rw [bif_F (by omega), w64_id (by omega) (by omega)]
      refine hn (f.length - (r + 1)) _ (by omega) ⟨r + 1, o1, by omega, rfl, rfl, hlab1, ?_⟩
      have hadj : ∀ i j, Adj f i j → rdD 0 o1 (i : Int) ≤ rdD 0 o (j : Int) := by
        rintro i j ⟨h1, h2, e', h3, h4⟩
        obtain ⟨k, hk, rfl⟩ := mem_eds.1 h3
        exact (hg1 i k j h1 hk h2 h1 h4).1
      rcases round_more hlab hlow1 hadj with hall | hmore
      · exact .inl fun i hi j hj => Int.le_trans (hlow1 i hi) (hall i hi j hj)
      · rcases hst with hall | hst
        · exact .inl fun i hi j hj => Int.le_trans (hlow1 i hi) (hall i hi j hj)
        · exact .inr (by omega)
  obtain rfl : r = f.length := by omega
  rw [bif_F (by omega), gd_T (by omega), gd_t (show fewI (f.length : Int) = true from few_t (by show f.length < _; omega))]
  clear hn next
  have hall : ∀ i, i < f.length → Stl f o i := hst.elim id all_named
  clear hst
  have hol := hlab.len
  -- the names as numbers
  have hP : PartOf f (fun i => (rdD 0 o (i : Int)).toNat) := by
    refine ⟨fun i hi => ?_, fun i hi => ?_, fun i hi j hj => ?_⟩
    · obtain ⟨v, h1, h2, h3⟩ := hlab.at_ i hi; rw [h1]; simpa using h2
    · obtain ⟨v, h1, h2, h3⟩ := hlab.at_ i hi; rw [h1]; simpa using h3
    · have := hall i hi j hj; omega
  have hval : ∀ i, i < f.length → rdD 0 o (i : Int) = (((rdD 0 o (i : Int)).toNat : Nat) : Int) := fun i hi => by
    obtain ⟨v, h1, h2, h3⟩ := hlab.at_ i hi; rw [h1]; simp
  generalize hw : (fun i : Nat => (rdD 0 o (i : Int)).toNat) = w at hP
  have hval' : ∀ i, i < f.length → rdD 0 o (i : Int) = ((w i : Nat) : Int) := fun i hi => by rw [← hw]; exact hval i hi
  clear hval hw hall hlab
  have hQf := hres w hP
  have hrk : ∀ v, v ≤ f.length → rk w v ≤ 900 := fun v hv => Nat.le_trans (rk_le w v) (by omega)
  refine loop_ex (fun q s => ∃ (i : Nat) (nm : List Int), i ≤ f.length ∧ q = f.length - i ∧ s = (f, o, nm, ((rk w i : Nat) : Int), (i : Int)) ∧ nm.length = f.length ∧ ∀ j, j < i → w j = j → rdD 0 nm (j : Int) = ((rk w j : Nat) : Int)) Q ?_ (m + 1000) f.length _ ⟨0, _, Nat.zero_le _, rfl, rfl, by unfold rpL; simp, fun j hj => by omega⟩ (by omega)
  rintro q s ⟨i, nm, hi, rfl, rfl, hnl, hnm⟩ next hn
  dsimp only
  by_cases e : i < f.length
  · have hrki := hrk i (by omega)
    rw [bif_T (by omega), gd_t (inb_t ⟨by omega, by omega⟩), hval' i e, w64_id (x := (i : Int) + 1) (by omega) (by omega)]
    by_cases c : w i = i
    · rw [bif_T (by omega), gd_t (inb_t ⟨by omega, by omega⟩), w64_id (by omega) (by omega)]
      refine hn (f.length - (i + 1)) _ (by omega) ⟨i + 1, nm.set i ((rk w i : Nat) : Int), by omega, rfl, ?_, by simp [hnl], fun j hj hwj => ?_⟩
      · rw [rk_succ, if_pos c]; rfl
      · rw [rd_set _ (by omega)]
        by_cases c2 : i = j
        · rw [if_pos c2, c2]
        · rw [if_neg c2]; exact hnm j (by omega) hwj
    · rw [bif_F (by omega)]
      refine hn (f.length - (i + 1)) _ (by omega) ⟨i + 1, nm, by omega, rfl, ?_, hnl, fun j hj hwj => ?_⟩
      · rw [rk_succ, if_neg c]; rfl
      · by_cases c2 : i = j
        · subst c2; exact absurd hwj c
        · exact hnm j (by omega) hwj
  obtain rfl : i = f.length := by omega
  rw [bif_F (by omega)]
  clear hn next
  refine loop_ex (fun q s => ∃ (i : Nat) (o' : List Int), i ≤ f.length ∧ q = f.length - i ∧ s = (f, o', nm, (i : Int)) ∧ o'.length = f.length ∧ (∀ j, j < i → rdD 0 o' (j : Int) = ((rk w (w j) : Nat) : Int)) ∧ ∀ j, i ≤ j → j < f.length → rdD 0 o' (j : Int) = ((w j : Nat) : Int)) Q ?_ (m + 1000) f.length _ ⟨0, o, Nat.zero_le _, rfl, rfl, hol, fun j hj => by omega, fun j _ hj => hval' j hj⟩ (by omega)
  rintro q s ⟨i, o', hi, rfl, rfl, hol', h1, h2⟩ next hn
  dsimp only
  by_cases e : i < f.length
  · have hwi := hP.le i e
    rw [bif_T (by omega), gd_t (inb_t ⟨by omega, by omega⟩), h2 i (Nat.le_refl _) e, gd_t (inb_t ⟨by omega, by omega⟩), gd_t (inb_t ⟨by omega, by omega⟩), hnm (w i) (by omega) (hP.self e), w64_id (by omega) (by omega)]
    refine hn (f.length - (i + 1)) _ (by omega) ⟨i + 1, o'.set i ((rk w (w i) : Nat) : Int), by omega, rfl, rfl, by simp [hol'], fun j hj => ?_, fun j hj hjl => ?_⟩
    · rw [rd_set _ (by omega)]
      by_cases c : i = j
      · rw [if_pos c, c]
      · rw [if_neg c]; exact h1 j (by omega)
    · rw [rd_set _ (by omega), if_neg (by omega)]
      exact h2 j (by omega) hjl
  · obtain rfl : i = f.length := by omega
    rw [bif_F (by omega)]
    refine ⟨o', rfl, ?_⟩
    have : o' = (List.range f.length).map fun i => ((rk w (w i) : Nat) : Int) := by
      apply List.ext_getElem (by simp [hol'])
      intro k hk1 hk2
      rw [← rd_get 0 o' k hk1, h1 k (by omega)]
      simp
    rw [this]
    exact hQf
end Go.Proofs.Ytiejhpighhjgiaa.Pure
