/- Convex faces. -/
import Derived.Test.YtiejhpighhjgiaaB12
set_option linter.unusedVariables false
set_option linter.unusedSimpArgs false
namespace Go.Proofs.Ytiejhpighhjgiaa.Pure
open Go.RowKit Go.Proofs.Ytiejhpighhjgiaa.AM

def lp (l : List Pt) (i : Nat) : Pt := rdD (0, 0) l (i : Int)
/-- Three places that do not turn left. -/
def bad3 (l : List Pt) (i k j : Nat) : Bool := !(decide (ori (lp l i) (lp l k) (lp l j) = 1))
def badC (l : List Pt) : Bool := (List.range l.length).any fun i => (List.range (l.length - (i + 1))).any fun k => (List.range (l.length - (i + 1 + k + 1))).any fun j => bad3 l i (i + 1 + k) (i + 1 + k + 1 + j)
def conv (l : List Pt) : Bool := !(badC l) && decide (l.length ≥ 3)
/-- A loop from a later place on, that stops with one answer. -/
theorem loop_anyF {α ρ : Type} {f : α → (α → Option ρ) → Option ρ} (st : Nat → α) (n : Nat) (b : Nat → Bool) (v e : Option ρ) {s0 : α} (hs0 : s0 = st 0) (h0 : ∀ next, f (st n) next = e) (hs : ∀ i, i < n → ∀ next, f (st i) next = bif b i then v else next (st (i + 1))) (q : Nat) (hq : n < q) :
    loopN f q s0 = bif (List.range n).any b then v else e := by
  rw [hs0]
  exact loop_any st n b v e h0 hs q hq
theorem conv_f (m : Nat) (l : List Pt) (hl : l.length ≤ 900) : g_parquetref03_Convex (m + 1000) l = some (conv l) := by
  unfold g_parquetref03_Convex b_parquetref03_Convex
  have e0 : (some (conv l) : Option Bool) = bif badC l then some false else some (decide ((l.length : Int) ≥ 3)) := by
    unfold conv
    cases badC l with
    | true => rfl
    | false =>
      simp only [Bool.not_false, Bool.true_and, cF]
      congr 1
      rw [decide_eq_decide]
      omega
  rw [e0]
  refine loop_anyF (fun i => (l, (i : Int))) l.length _ (some false) _ rfl ?_ ?_ (m + 1000) (by omega)
  · intro next
    dsimp only
    rw [bif_F (by omega)]
  · intro i hi next
    dsimp only
    rw [bif_T (by omega), w64_id (by omega) (by omega)]
    refine loop_anyF (fun k => (l, (i : Int), ((i + 1 + k : Nat) : Int))) (l.length - (i + 1)) _ (some false) (next (l, ((i + 1 : Nat) : Int))) (by simp) ?_ ?_ (m + 1000) (by omega)
    · intro next'
      dsimp only
      rw [bif_F (by omega), w64_id (by omega) (by omega)]
      rfl
    · intro k hk next'
      dsimp only
      rw [bif_T (by omega), w64_id (by omega) (by omega)]
      refine loop_anyF (fun j => (l, (i : Int), ((i + 1 + k : Nat) : Int), ((i + 1 + k + 1 + j : Nat) : Int))) (l.length - (i + 1 + k + 1)) _ (some false) (next' (l, (i : Int), ((i + 1 + (k + 1) : Nat) : Int))) (by simp) ?_ ?_ (m + 1000) (by omega)
      · intro next''
        dsimp only
        rw [bif_F (by omega), w64_id (by omega) (by omega)]
        rfl
      · intro j hj next''
        dsimp only
        have ho : g_parquetref03_Orient (m + 1000) (lp l i) (lp l (i + 1 + k)) (lp l (i + 1 + k + 1 + j)) = some (ori (lp l i) (lp l (i + 1 + k)) (lp l (i + 1 + k + 1 + j))) := rOrient_f (m + 900) _ _ _
        rw [bif_T (by omega), gd_t (inb_t ⟨by omega, by omega⟩), gd_t (inb_t ⟨by omega, by omega⟩), gd_t (inb_t ⟨by omega, by omega⟩)]
        show bnd (g_parquetref03_Orient (m + 1000) (lp l i) (lp l (i + 1 + k)) (lp l (i + 1 + k + 1 + j))) _ = _
        rw [ho, bnd_s, w64_id (by omega) (by omega)]
        rfl
def convF (p : List Pt) (f : List (List Int)) : Bool := f.all fun c => conv (c.map (pt p))
theorem conv19_f (m : Nat) (p : List Pt) (f : List (List Int)) (hl : f.length ≤ 900) (hc : ∀ c ∈ f, c.length ≤ 900 ∧ ∀ i ∈ c, 0 ≤ i ∧ i < (p.length : Int)) : g_parquetref19_Convex (m + 1000) p f = some (convF p f) := by
  unfold g_parquetref19_Convex b_parquetref19_Convex
  simp only [meet]
  refine (loop_list (fun i => (p, f, (i : Int))) f.length (fun i => some ((f.drop i).all fun c => conv (c.map (pt p)))) ?_ ?_ (m + 1000) 0 (Nat.zero_le _) (by omega)).trans rfl
  · intro next
    dsimp only
    rw [bif_F (by omega), List.drop_length]
    rfl
  · intro i hi next hn
    dsimp only at hn ⊢
    have hci := hc _ (List.getElem_mem hi)
    have hd : f.drop i = f[i] :: f.drop (i + 1) := List.drop_eq_getElem_cons hi
    rw [bif_T (by omega), hd, List.all_cons]
    refine loop_from (fun k => (p, f, (i : Int), (f[i].take k).map (pt p), (k : Int))) f[i].length rfl ?_ ?_ (m + 1000) (by omega)
    · intro next'
      dsimp only
      rw [gd_t (inb_t ⟨by omega, by omega⟩), rd_get _ _ _ hi, bif_F (by omega), List.take_length, conv_f m _ (by rw [List.length_map]; omega), bnd_s, w64_id (by omega) (by omega)]
      cases conv (f[i].map (pt p)) with
      | false => rfl
      | true => exact hn
    · intro k hk next' hn'
      dsimp only
      have hx := hci.2 _ (List.getElem_mem hk)
      rw [gd_t (inb_t ⟨by omega, by omega⟩), rd_get _ _ _ hi, bif_T (by omega), gd_t (inb_t ⟨by omega, by omega⟩), gd_t (inb_t ⟨by omega, by omega⟩), rd_get _ _ _ hk, bif_F (by omega), gd_t (inb_t ⟨by omega, by omega⟩), gd_t (inb_t ⟨by omega, by omega⟩), bif_F (by omega), gd_t (inb_t ⟨by omega, by omega⟩), gd_t (inb_t ⟨by omega, by omega⟩), gd_t (inb_t ⟨by omega, by omega⟩), gd_t (few_t (by rw [List.length_map, List.length_take]; omega)), w64_id (by omega) (by omega), ← hn', map_snoc _ _ _ hk]
      rfl
theorem ori_one {a b c : Pt} : ori a b c = 1 ↔ (Fit a ∧ Fit b ∧ Fit c) ∧ 0 < crs a b c := by
  unfold ori sg
  by_cases h : Fit a ∧ Fit b ∧ Fit c
  · rw [if_pos h]
    constructor
    · intro e; refine ⟨h, ?_⟩; (repeat' split at e) <;> omega
    · rintro ⟨_, e⟩; rw [if_pos e]
  · rw [if_neg h]
    constructor
    · intro e; cases e
    · rintro ⟨h2, _⟩; exact absurd h2 h
theorem conv_three {a b c : Pt} : conv [a, b, c] = true ↔ ori a b c = 1 := by
  have e : badC [a, b, c] = !(decide (ori a b c = 1)) := by
    simp [badC, bad3, lp, rdD, List.range_succ]
  unfold conv
  rw [e]
  simp
theorem conv_four {a b c d : Pt} : conv [a, b, c, d] = true ↔ ori a b c = 1 ∧ ori a b d = 1 ∧ ori a c d = 1 ∧ ori b c d = 1 := by
  have e : badC [a, b, c, d] = (!(decide (ori a b c = 1)) || (!(decide (ori a b d = 1)) || (!(decide (ori a c d = 1)) || !(decide (ori b c d = 1))))) := by
    simp [badC, bad3, lp, rdD, List.range_succ, Bool.or_assoc]
  unfold conv
  rw [e]
  simp
end Go.Proofs.Ytiejhpighhjgiaa.Pure
