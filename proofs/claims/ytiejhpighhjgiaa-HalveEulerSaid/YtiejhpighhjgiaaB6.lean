/- All faces, halved. -/
import Derived.Test.YtiejhpighhjgiaaB5
set_option linter.unusedVariables false
set_option linter.unusedSimpArgs false
namespace Go.Proofs.Ytiejhpighhjgiaa.Pure
open Go.RowKit Go.Proofs.Ytiejhpighhjgiaa.AM

def hv (p : List Pt) (s : Pt) : Pt := (6 * ((pt p s.1).1 + (pt p s.2).1), 6 * ((pt p s.1).2 + (pt p s.2).2))
def ix (L : List Pt) (s : Pt) : Nat := L.idxOf s
def hmT (np : Nat) (L : List Pt) (i : Nat) : List (Pt × Int) := (List.range i).map fun (j : Nat) => (rdD (0, 0) L (j : Int), ((np + j : Nat) : Int))
def pv (c : List Int) (k : Nat) : Int := rdD 0 c (((k + c.length - 1) % c.length : Nat) : Int)
def rowv (np : Nat) (L : List Pt) (c : List Int) (i k : Nat) : List Int :=
  [rdD 0 c (k : Int), ((np + ix L (up (rdD 0 c (k : Int), nx c k)) : Nat) : Int), ((np + L.length + i : Nat) : Int), ((np + ix L (up (rdD 0 c (k : Int), pv c k)) : Nat) : Int)]
def rows (np : Nat) (L : List Pt) (f : List (List Int)) (i : Nat) : List (List Int) := (List.range (fc f i).length).map (rowv np L (fc f i) i)
def outs (np : Nat) (L : List Pt) (f : List (List Int)) (n : Nat) : List (List Int) := (List.range n).flatMap (rows np L f)
def runOk (p : List Pt) (f : List (List Int)) : Prop := chk p.length f = 0 ∧ (∀ q ∈ p, FitT q) ∧ ∀ c ∈ f, midOk p c
instance (p : List Pt) (f : List (List Int)) : Decidable (runOk p f) := inferInstanceAs (Decidable (_ ∧ _ ∧ _))
def plc (p : List Pt) (f : List (List Int)) : List Pt := p.map (sc 12) ++ (edgs f).map (hv p) ++ f.map (midv p)
def runv (p : List Pt) (f : List (List Int)) : List Pt × List (List Int) × Int := if runOk p f then (plc p f, outs p.length (edgs f) f f.length, 0) else ([], [], 2)

/-- Few enough to be gone through. -/
structure Few (p : List Pt) (f : List (List Int)) : Prop where
  hp : p.length ≤ 900
  hf : f.length ≤ 900
  hc : ∀ c ∈ f, c.length ≤ 900
  ht : (alls f).length ≤ 900
theorem chk_mono {n : Int} {f : List (List Int)} (h : chk n f = 0) : chk 1048576 f = 0 := by
  have hn : ¬(n < 0 ∨ 1048576 < n) := by
    intro h2
    rw [chk, if_pos h2] at h
    cases h
  have F := fine_of h
  have hno : ¬(List.range f.length).any (fun i => badF 1048576 (fc f i)) = true := by
    intro hany
    obtain ⟨i, hi, hb⟩ := List.any_eq_true.1 hany
    rw [List.mem_range] at hi
    have hm : fc f i ∈ f := by rw [fc_get hi]; exact List.getElem_mem hi
    unfold badF at hb
    rcases (Bool.or_eq_true _ _).mp hb with hb | hb
    · obtain ⟨j, hj, hb⟩ := List.any_eq_true.1 hb
      rw [List.mem_range] at hj
      unfold bad1 at hb
      rw [decide_eq_true_eq, rd_get _ _ _ hj] at hb
      have h1 := F.rng _ hm _ (List.getElem_mem hj)
      rcases hb with hb | hb | hb
      · omega
      · omega
      · obtain ⟨j', hj', e⟩ := List.mem_take_iff_getElem.1 hb
        exact List.pairwise_iff_getElem.1 (F.nd _ hm) j' j (by omega) hj (by omega) e
    · have := F.big _ hm
      rw [decide_eq_true_eq] at hb
      omega
  rw [chk, if_neg (by omega), if_neg hno, if_pos F.once]
theorem srt_nodup {L : List Pt} (h : Srt L) : L.Nodup := h.imp fun h e => by subst e; exact ltS_irr _ h
theorem hmT_keys {np : Nat} {L : List Pt} : ∀ {i : Nat}, i ≤ L.length → (hmT np L i).map (·.1) = L.take i
  | 0, _ => rfl
  | i + 1, h => by
    have ih := hmT_keys (np := np) (L := L) (i := i) (by omega)
    unfold hmT at ih ⊢
    rw [List.range_succ, List.map_append, List.map_append, ih, take_snoc L i (by omega)]
    simp only [List.map_cons, List.map_nil]
    rw [rd_get _ _ _ (by omega)]
theorem hmT_lk {np : Nat} {L : List Pt} (h : L.Nodup) {s : Pt} (hs : s ∈ L) : lkP (hmT np L L.length) s = ((np + ix L s : Nat) : Int) := by
  have hi : ix L s < L.length := List.idxOf_lt_length_of_mem hs
  have hg : L[ix L s] = s := List.getElem_idxOf hi
  have hk : ((hmT np L L.length).map (·.1)).Nodup := by rw [hmT_keys (Nat.le_refl _), List.take_length]; exact h
  have hm : (s, ((np + ix L s : Nat) : Int)) ∈ hmT np L L.length := by
    unfold hmT
    refine List.mem_map.2 ⟨ix L s, List.mem_range.2 hi, ?_⟩
    rw [rd_get _ _ _ hi, hg]
  exact lk_at hk hm
theorem hmT_snoc (np : Nat) (L : List Pt) (i : Nat) : hmT np L (i + 1) = hmT np L i ++ [(rdD (0, 0) L (i : Int), ((np + i : Nat) : Int))] := by simp [hmT, List.range_succ]
theorem outs_snoc (np : Nat) (L : List Pt) (f : List (List Int)) (n : Nat) : outs np L f (n + 1) = outs np L f n ++ rows np L f n := by simp [outs, List.range_succ]
theorem pv_ed {c : List Int} {k : Nat} (h : k < c.length) : ed c ((k + c.length - 1) % c.length) = (pv c k, rdD 0 c (k : Int)) := by
  unfold ed nx pv
  congr 2
  have : ((k + c.length - 1) % c.length + 1) % c.length = k := by
    by_cases e : k = 0
    · subst e
      rw [Nat.mod_eq_of_lt (a := 0 + c.length - 1) (by omega), show 0 + c.length - 1 + 1 = c.length by omega, Nat.mod_self]
    · rw [show k + c.length - 1 = (k - 1) + c.length by omega, Nat.add_mod_right, Nat.mod_eq_of_lt (a := k - 1) (by omega), Nat.mod_eq_of_lt (by omega)]
      omega
  rw [this]
theorem up_swap (a b : Int) : up (a, b) = up (b, a) := up_rv (b, a)
section
variable {p : List Pt} {f : List (List Int)} (h : chk p.length f = 0)
include h
theorem row_in {i k : Nat} (hi : i < f.length) (hk : k < (fc f i).length) : up (rdD 0 (fc f i) (k : Int), nx (fc f i) k) ∈ edgs f ∧ up (rdD 0 (fc f i) (k : Int), pv (fc f i) k) ∈ edgs f := by
  have hm : fc f i ∈ f := by rw [fc_get hi]; exact List.getElem_mem hi
  constructor
  · exact (mem_edgs (chk_mono h) _).2 ⟨_, mem_alls.2 ⟨_, hm, k, hk, rfl⟩, rfl⟩
  · refine (mem_edgs (chk_mono h) _).2 ⟨_, mem_alls.2 ⟨_, hm, (k + (fc f i).length - 1) % (fc f i).length, Nat.mod_lt _ (by omega), rfl⟩, ?_⟩
    rw [pv_ed hk, up_swap]
theorem edg_rng {s : Pt} (hs : s ∈ edgs f) : (0 ≤ s.1 ∧ s.1 < (p.length : Int)) ∧ 0 ≤ s.2 ∧ s.2 < (p.length : Int) := by
  obtain ⟨e, he, rfl⟩ := (mem_edgs (chk_mono h) s).1 hs
  obtain ⟨c, hc, i, hi, rfl⟩ := mem_alls.1 he
  have F := fine_of h
  have h1 := F.rng c hc _ (rd_in hi)
  have h2 : 0 ≤ nx c i ∧ nx c i < (p.length : Int) := F.rng c hc _ (rd_in (Nat.mod_lt _ (by omega)))
  unfold up ed mnI mxI
  dsimp only
  constructor <;> split <;> assumption
theorem edgs_len (hf : Few p f) : (edgs f).length ≤ 900 := by
  have : (edgs f).length = (ups f).length := by rw [edgs, if_pos (chk_mono h)]; exact (srtL_perm _).length_eq
  rw [this]
  refine Nat.le_trans (List.length_filterMap_le _ _) ?_
  rw [tab_len]
  exact hf.ht
end
theorem okPt {p : List Pt} (h : ∀ q ∈ p, FitT q) {i : Int} (h0 : 0 ≤ i) (h1 : i < (p.length : Int)) : FitT (pt p i) := by
  obtain ⟨n, rfl⟩ := Int.eq_ofNat_of_zero_le h0
  unfold pt
  rw [rd_get _ _ _ (by omega)]
  exact h _ (List.getElem_mem _)
theorem outs_len {f : List (List Int)} (np : Nat) (L : List Pt) : ∀ n, n ≤ f.length → (outs np L f n).length = ((f.take n).flatMap eds).length
  | 0, _ => by simp [outs]
  | n + 1, h => by
    rw [outs_snoc, List.length_append, outs_len np L n (by omega), flat_snoc _ _ _ (by omega), List.length_append, eds_len, ← fc_get (by omega)]
    simp [rows]
theorem pre_len (f : List (List Int)) (i : Nat) : ((f.take i).flatMap eds).length ≤ (alls f).length := by
  have : alls f = (f.take i).flatMap eds ++ (f.drop i).flatMap eds := by rw [← List.flatMap_append, List.take_append_drop]; rfl
  rw [this, List.length_append]
  omega
theorem run_f (m : Nat) (p : List Pt) (f : List (List Int)) (hf : Few p f) : g_halve_Run (m + 1000) p f = some (runv p f) := by
  unfold g_halve_Run b_halve_Run g_faces_Check b_faces_Check
  simp only [meet]
  rw [known_f m _ f hf.hf hf.hc, bnd_s, bnd_s]
  have hfc : ∀ i, i < f.length → (fc f i).length ≤ 900 := fun i hi => by rw [fc_get hi]; exact hf.hc _ (List.getElem_mem _)
  have hp := hf.hp
  have hfl := hf.hf
  have ht := hf.ht
  by_cases hch : chk p.length f = 0
  case neg =>
    rw [if_neg hch, bif_nF hch, runv, if_neg (fun h => hch h.1)]
  rw [if_pos hch, bif_nT rfl]
  refine loop_rel (fun r s v => ∃ i, i ≤ p.length ∧ (∀ q ∈ p.take i, FitT q) ∧ r = p.length - i ∧ s = (p, f, (p.take i).map (sc 12), [], p, (p.length : Int), (i : Int)) ∧ v = some (runv p f)) ?_ (m + 1000) p.length _ _ ⟨0, Nat.zero_le _, by simp, rfl, rfl, rfl⟩ (by omega)
  rintro r s v ⟨i, hi, hok, rfl, rfl, rfl⟩ next hn
  dsimp only
  by_cases e : i < p.length
  · have hbad : ¬FitT p[i] → some ([], [], 2) = some (runv p f) := fun h => by
      rw [runv, if_neg (fun h2 => h (h2.2.1 _ (List.getElem_mem e)))]
    rw [bif_T (by omega), gd_t (inb_t ⟨by omega, by omega⟩), rd_get _ _ _ e, etaP, fits_f, bnd_s]
    by_cases h3 : Fit p[i]
    case neg =>
      rw [decide_eq_false h3]
      exact hbad (fun h => h3 h.1)
    rw [decide_eq_true h3, Bool.not_true, cF, times_f _ _ _ (by omega) (by omega) h3, bnd_s, etaP, fits_f, bnd_s]
    by_cases h4 : Fit (sc 12 p[i])
    case neg =>
      rw [decide_eq_false h4]
      exact hbad (fun h => h4 h.2)
    rw [decide_eq_true h4, Bool.not_true, cF, bnd_s, gd_t (few_t (by rw [List.length_map, List.length_take]; omega)), w64_id (by omega) (by omega)]
    refine hn (p.length - (i + 1)) _ _ (by omega) ⟨i + 1, by omega, fun q hq => ?_, rfl, ?_, rfl⟩
    · rw [take_snoc _ _ e, List.mem_append, List.mem_singleton] at hq
      rcases hq with hq | rfl
      · exact hok q hq
      · exact ⟨h3, h4⟩
    · rw [map_snoc _ _ _ e]
      rfl
  obtain rfl : i = p.length := by omega
  rw [List.take_length] at hok ⊢
  rw [bif_F (by omega)]
  clear hn next
  -- the middles
  refine loop_rel (fun r s v => ∃ i, i ≤ f.length ∧ (∀ c ∈ f.take i, midOk p c) ∧ r = f.length - i ∧ s = (p, f, p.map (sc 12), (f.take i).map (midv p), f, (f.length : Int), (i : Int)) ∧ v = some (runv p f)) ?_ (m + 1000) f.length _ _ ⟨0, Nat.zero_le _, by simp, rfl, rfl, rfl⟩ (by omega)
  rintro r s v ⟨i, hi, hmid, rfl, rfl, rfl⟩ next hn
  dsimp only
  by_cases e : i < f.length
  · rw [bif_T (by omega), gd_t (inb_t ⟨by omega, by omega⟩), rd_get _ _ _ e, middle_f, bnd_s]
    unfold midr
    by_cases h3 : midOk p f[i]
    case neg =>
      rw [if_neg h3]
      rw [bif_nF (by decide), runv, if_neg (fun h2 => h3 (h2.2.2 _ (List.getElem_mem e)))]
    rw [if_pos h3]
    dsimp only
    rw [bif_nT rfl, gd_t (few_t (by rw [List.length_map, List.length_take]; omega)), w64_id (by omega) (by omega)]
    refine hn (f.length - (i + 1)) _ _ (by omega) ⟨i + 1, by omega, fun q hq => ?_, rfl, ?_, rfl⟩
    · rw [take_snoc _ _ e, List.mem_append, List.mem_singleton] at hq
      rcases hq with hq | rfl
      · exact hmid q hq
      · exact h3
    · rw [map_snoc _ _ _ e]
      rfl
  obtain rfl : i = f.length := by omega
  rw [List.take_length] at hmid ⊢
  have hro : runOk p f := ⟨hch, hok, hmid⟩
  rw [bif_F (by omega)]
  clear hn next
  rw [edges_f m f hf.hf hf.hc hf.ht, bnd_s, runv, if_pos hro]
  -- the edges' middles
  have hsrt := edgs_srt f
  have hLn := srt_nodup hsrt
  have hLr : ∀ s ∈ edgs f, (0 ≤ s.1 ∧ s.1 < (p.length : Int)) ∧ 0 ≤ s.2 ∧ s.2 < (p.length : Int) := fun s hs => edg_rng hch hs
  have hLi : ∀ i k, i < f.length → k < (fc f i).length → up (rdD 0 (fc f i) (k : Int), nx (fc f i) k) ∈ edgs f ∧ up (rdD 0 (fc f i) (k : Int), pv (fc f i) k) ∈ edgs f := fun i k hi hk => row_in hch hi hk
  have hLl := edgs_len hch hf
  unfold plc
  generalize edgs f = L at *
  refine loop_from (fun i => (p, f, p.map (sc 12) ++ (L.take i).map (hv p), f.map (midv p), hmT p.length L i, L, (L.length : Int), (i : Int))) L.length (by simp [hmT]) ?_ ?_ (m + 1000) (by omega)
  · intro next
    dsimp only
    rw [bif_F (by omega), List.take_length]
    -- the faces
    refine loop_from (fun i => (p.map (sc 12) ++ L.map (hv p), f.map (midv p), hmT p.length L L.length, outs p.length L f i, f, (f.length : Int), (i : Int))) f.length (by simp [outs]) ?_ ?_ (m + 1000) (by omega)
    · intro next
      dsimp only
      rw [bif_F (by omega), gd_t (few_t (by simp; omega))]
    · intro i hi next hn
      dsimp only
      rw [bif_T (by omega), gd_t (inb_t ⟨by omega, by omega⟩), show rdD [] f (i : Int) = fc f i from rfl]
      have hcl := hfc i hi
      have hpre := pre_len f (i + 1)
      rw [flat_snoc eds f i hi, List.length_append, eds_len, ← fc_get hi, ← outs_len p.length L i (by omega)] at hpre
      refine (loop_from (fun k => (p.map (sc 12) ++ L.map (hv p), f.map (midv p), hmT p.length L L.length, outs p.length L f i ++ ((List.range k).map (rowv p.length L (fc f i) i)), (i : Int), fc f i, ((fc f i).length : Int), f, (f.length : Int), (i : Int), fc f i, ((fc f i).length : Int), (k : Int))) (fc f i).length (by simp) ?_ ?_ (m + 1000) (by omega))
      · intro next'
        dsimp only
        rw [bif_F (by omega), w64_id (by omega) (by omega), ← hn, outs_snoc]
        rfl
      · intro k hk next' hn'
        dsimp only
        have hlk := hLi i k hi hk
        have hcp : 0 < (fc f i).length := by omega
        have t1 : (w64 ((k : Int) + 1)).tmod ((fc f i).length : Int) = (((k + 1) % (fc f i).length : Nat) : Int) := by
          rw [w64_id (by omega) (by omega), Int.tmod_eq_emod_of_nonneg (by omega), Int.natCast_emod]
          rfl
        have t2 : (w64 ((w64 ((k : Int) + ((fc f i).length : Int))) - 1)).tmod ((fc f i).length : Int) = (((k + (fc f i).length - 1) % (fc f i).length : Nat) : Int) := by
          rw [w64_id (x := (k : Int) + _) (by omega) (by omega), w64_id (by omega) (by omega), Int.tmod_eq_emod_of_nonneg (by omega), Int.natCast_emod]
          congr 1
          omega
        have m1 : (k + 1) % (fc f i).length < (fc f i).length := Nat.mod_lt _ hcp
        have m2 : (k + (fc f i).length - 1) % (fc f i).length < (fc f i).length := Nat.mod_lt _ hcp
        rw [bif_T (by omega), gd_t (inb_t ⟨by omega, by omega⟩), gd_nF (by omega), t1, gd_t (inb_t ⟨by omega, by omega⟩), t2]
        show bnd (some (up (rdD 0 (fc f i) (k : Int), nx (fc f i) k))) _ = _
        rw [bnd_s, gd_nF (by omega), gd_t (inb_t ⟨by omega, by omega⟩)]
        show bnd (some (up (rdD 0 (fc f i) (k : Int), pv (fc f i) k))) _ = _
        rw [bnd_s, gd_t (few_t (by rw [List.length_append, List.length_map, List.length_range]; omega))]
        show next' (_, _, _, (outs p.length L f i ++ (List.range k).map (rowv p.length L (fc f i) i)) ++ [[rdD 0 (fc f i) (k : Int), lkP (hmT p.length L L.length) (up (rdD 0 (fc f i) (k : Int), nx (fc f i) k)), w64 (((p.map (sc 12) ++ L.map (hv p)).length : Int) + (i : Int)), lkP (hmT p.length L L.length) (up (rdD 0 (fc f i) (k : Int), pv (fc f i) k))]], _) = _
        rw [hmT_lk hLn hlk.1, hmT_lk hLn hlk.2, w64_id (x := (k : Int) + 1) (by omega) (by omega), w64_id (by simp; omega) (by simp; omega)]
        rw [← hn', List.range_succ, List.map_append, ← List.append_assoc]
        congr 5
        simp only [List.map_cons, List.map_nil, rowv]
        congr 3
        simp
  · intro i hi next hn
    dsimp only
    have hin := hLr _ (List.getElem_mem hi)
    have q1 := okPt hok hin.1.1 hin.1.2
    have q2 := okPt hok hin.2.1 hin.2.2
    have b1 := q1.b
    have b2 := q2.b
    rw [bif_T (by omega), gd_t (inb_t ⟨by omega, by omega⟩), rd_get _ _ _ hi]
    show gd (!(hsP (hmT p.length L i) L[i])) _ = _
    rw [hs_mem, hmT_keys (by omega), gd_nF (fun h => by
      obtain ⟨j, hj, e⟩ := List.mem_take_iff_getElem.1 h
      exact List.pairwise_iff_getElem.1 hLn j i (by omega) hi (by omega) e), gd_t (inb_t hin.1), gd_t (inb_t hin.2), gd_t (inb_t hin.1), gd_t (inb_t hin.2)]
    rw [show rdD (0, 0) p (L[i]).1 = pt p (L[i]).1 from rfl, show rdD (0, 0) p (L[i]).2 = pt p (L[i]).2 from rfl]
    rw [w64_id (x := (pt p (L[i]).1).1 + (pt p (L[i]).2).1) (by omega) (by omega), w64_id (x := (pt p (L[i]).1).2 + (pt p (L[i]).2).2) (by omega) (by omega), times_f _ _ _ (by omega) (by omega) (by unfold Fit; dsimp only; omega), bnd_s, gd_t (few_t (by simp; omega)), w64_id (by omega) (by omega)]
    rw [← hn, hmT_snoc, map_snoc _ _ _ hi, rd_get _ _ _ hi, ← List.append_assoc]
    show next (_, _, _, _, adP (hmT p.length L i) L[i] ((p.map (sc 12) ++ (L.take i).map (hv p)).length : Int), _) = _
    unfold adP
    congr 6
    simp
    omega
end Go.Proofs.Ytiejhpighhjgiaa.Pure
