/- Rings, as ways from place to place; what is the same for each segment is the same for a ring. -/
import Derived.Test.YtgbgihofehmjpaaW3
import Derived.Test.YtgbgihofehmjpaaH18
set_option linter.unusedVariables false
set_option linter.unusedSimpArgs false
namespace Go.Proofs.Ytgbgihofehmjpaa.Pure
open Go.RowKit Go.Proofs.Ytgbgihofehmjpaa.AM
def ringv (n : Nat) : List Pt := (List.range n).map fun (i : Nat) => ((i : Int), (((i + 1) % n : Nat) : Int))
theorem ringv_len (n : Nat) : (ringv n).length = n := by unfold ringv; simp
theorem tmodN (i n : Nat) : ((i : Int) + 1).tmod (n : Int) = (((i + 1) % n : Nat) : Int) := by
  rw [Int.tmod_eq_emod_of_nonneg (by omega)]; simp
theorem ring_f (m : Nat) (p : List Pt) (hl : p.length ≤ 350) : g_parquetlaw09_ring (m + 400) p = some (ringv p.length) := by
  unfold g_parquetlaw09_ring
  refine loop_list (fun i => (p, (List.range i).map fun (i : Nat) => ((i : Int), (((i + 1) % p.length : Nat) : Int)), (i : Int))) p.length (fun _ => some (ringv p.length)) ?_ ?_ (m + 400) 0 (Nat.zero_le _) (by omega)
  · intro next
    dsimp only
    rw [bif_F (by omega)]; rfl
  · intro i hi next hn
    dsimp only at hn ⊢
    rw [bif_T (by omega), gd_t (show (!(decide ((p.length : Int) = 0))) = true by rw [decide_eq_false (by omega)]; rfl), w64_id (x := (i : Int) + 1) (by omega) (by omega), tmodN, gd_t (by unfold few; simp; omega)]
    rw [List.range_succ, List.map_append] at hn
    exact hn
/-- The way from a place along a row. -/
def path : Pt → List Pt → List Sg
  | _, [] => []
  | a, b :: r => (a, b) :: path b r
/-- A ring's segments. -/
def cyc : List Pt → List Sg
  | [] => []
  | x :: xs => path x (xs ++ [x])
theorem path_len : ∀ (a : Pt) (l : List Pt), (path a l).length = l.length
  | _, [] => rfl
  | a, b :: r => by unfold path; rw [List.length_cons, path_len b r, List.length_cons]
theorem path_get : ∀ (a : Pt) (l : List Pt) (i : Nat) (h : i < l.length), (path a l)[i]'(by rw [path_len]; exact h) = ((a :: l)[i]'(by simp; omega), l[i])
  | a, b :: r, 0, _ => rfl
  | a, b :: r, i + 1, h => by
    have := path_get b r i (by simpa using h)
    simpa [path] using this
theorem path_app : ∀ (a : Pt) (U : List Pt) (b : Pt) (V : List Pt), path a (U ++ b :: V) = path a (U ++ [b]) ++ path b V
  | a, [], b, V => rfl
  | a, u :: U, b, V => by
    show (a, u) :: path u (U ++ b :: V) = (a, u) :: (path u (U ++ [b]) ++ path b V)
    rw [path_app u U b V]
theorem pt_get {p : List Pt} {i : Nat} (h : i < p.length) : pt p (i : Int) = p[i] := by unfold pt; exact rd_get _ p i h
/-- The segments of the ring of the first places, scaled. -/
theorem ring_cyc (p rest : List Pt) (g : Int) : (ringv p.length).map (sgm (p ++ rest) g) = (cyc p).map fun s => (sc g s.1, sc g s.2) := by
  cases p with
  | nil => rfl
  | cons x xs =>
    have hlen : (cyc (x :: xs)).length = xs.length + 1 := by unfold cyc; rw [path_len]; simp
    apply List.ext_getElem
    · rw [List.length_map, List.length_map, ringv_len, hlen]; simp
    · intro i h1 h2
      rw [List.length_map, ringv_len, List.length_cons] at h1
      rw [List.getElem_map, List.getElem_map]
      have e1 : (ringv (x :: xs).length)[i]'(by rw [ringv_len]; simpa using h1) = ((i : Int), (((i + 1) % (xs.length + 1) : Nat) : Int)) := by
        unfold ringv; simp
      have e2 : (cyc (x :: xs))[i]'(by rw [hlen]; exact h1) = ((x :: (xs ++ [x]))[i]'(by simp; omega), (xs ++ [x])[i]'(by simp; omega)) := by
        exact path_get x (xs ++ [x]) i (by simp; omega)
      rw [e1, e2]
      unfold sgm
      dsimp only
      have a1 : i < (x :: xs ++ rest).length := by simp; omega
      have a2 : (i + 1) % (xs.length + 1) < (x :: xs ++ rest).length := by have := Nat.mod_lt (i + 1) (show xs.length + 1 > 0 by omega); simp; omega
      rw [pt_get a1, pt_get a2]
      have b1 : (x :: xs ++ rest)[i] = (x :: (xs ++ [x]))[i]'(by simp; omega) := by
        rw [List.getElem_append_left (by simp; omega)]
        have : x :: (xs ++ [x]) = (x :: xs) ++ [x] := rfl
        simp only [this]
        rw [List.getElem_append_left (by simp; omega)]
      have b2 : (x :: xs ++ rest)[(i + 1) % (xs.length + 1)] = (xs ++ [x])[i]'(by simp; omega) := by
        by_cases e : i = xs.length
        · subst e
          simp
        · have e3 : (i + 1) % (xs.length + 1) = i + 1 := Nat.mod_eq_of_lt (by omega)
          simp only [e3]
          rw [List.getElem_append_left (by simp; omega), List.getElem_append_left (by omega)]
          simp
      rw [b1, b2]
/-- May a segment be, so much greater? -/
def OkG (g : Int) (s : Sg) : Prop := s.1 ≠ s.2 ∧ (Fit s.1 ∧ Fit s.2) ∧ Fit (sc g s.1) ∧ Fit (sc g s.2)
instance (g : Int) (s : Sg) : Decidable (OkG g s) := inferInstanceAs (Decidable (_ ∧ _))
def okg (g : Int) (L : List Sg) : Bool := L.all fun s => decide (OkG g s)
def scl (g : Int) (L : List Sg) : List Sg := L.map fun s => (sc g s.1, sc g s.2)
def atg (g : Int) (L : List Sg) (q : Pt) : Int × Int := if okg g L = true ∧ Fit q then (whr (scl g L) q, 0) else (0, 2)
theorem sgm_one (p : List Pt) (s : Pt) : sgm p 1 s = (pt p s.1, pt p s.2) := by unfold sgm; rw [sc_one, sc_one]
theorem okl_map (p : List Pt) (g : Int) (l : List Pt) (h : ∀ s ∈ l, inr s.1 p.length ∧ inr s.2 p.length) : okl p g l = okg g (l.map (sgm p 1)) := by
  unfold okl okg
  rw [List.all_map]
  rw [Bool.eq_iff_iff, List.all_eq_true, List.all_eq_true]
  have key : ∀ s ∈ l, (decide (OkS p g s) = true ↔ (Function.comp (fun s => decide (OkG g s)) (sgm p 1)) s = true) := by
    intro s hs
    simp only [Function.comp, decide_eq_true_eq, sgm_one]
    unfold OkS OkG
    exact ⟨fun x => x.2, fun x => ⟨h s hs, x⟩⟩
  exact ⟨fun x s hs => (key s hs).1 (x s hs), fun x s hs => (key s hs).2 (x s hs)⟩
theorem ringv_in (n k : Nat) (h : n ≤ k) : ∀ s ∈ ringv n, inr s.1 k ∧ inr s.2 k := by
  intro s hs
  obtain ⟨i, hi, rfl⟩ := List.mem_map.1 hs
  have := List.mem_range.1 hi
  have := Nat.mod_lt (i + 1) (show n > 0 by omega)
  exact ⟨⟨by dsimp only; omega, by dsimp only; omega⟩, ⟨by dsimp only; omega, by dsimp only; omega⟩⟩
theorem scl_one (L : List Sg) : scl 1 L = L := by
  unfold scl; simp only [sc_one]; exact List.map_id _
/-- At, of a ring. -/
theorem atv_ring (p rest : List Pt) (g : Int) (q : Pt) : atv (p ++ rest) (ringv p.length) g q = atg g (cyc p) q := by
  unfold atv atg
  have e1 : (ringv p.length).map (sgm (p ++ rest) 1) = cyc p := by rw [ring_cyc]; exact scl_one _
  rw [okl_map _ _ _ (ringv_in _ _ (by simp)), e1, ring_cyc]; rfl
theorem atv_ring' (p : List Pt) (g : Int) (q : Pt) : atv p (ringv p.length) g q = atg g (cyc p) q := by
  have := atv_ring p [] g q
  rwa [List.append_nil] at this
/-! ### Sums of yes and no -/
def xs {α : Type} (L : List α) (h : α → Bool) : Bool := L.foldr (fun s b => xor (h s) b) false
theorem xs_cons {α : Type} (s : α) (L : List α) (h : α → Bool) : xs (s :: L) h = xor (h s) (xs L h) := rfl
theorem par_xs (q : Pt) : ∀ L : List Sg, par L q = xs L fun s => decide (Rgt s.1 s.2 q)
  | [] => rfl
  | s :: L => by rw [par_cons, xs_cons, par_xs q L]
theorem xs_congr {α : Type} {h h' : α → Bool} : ∀ L : List α, (∀ s ∈ L, h s = h' s) → xs L h = xs L h'
  | [], _ => rfl
  | s :: L, hl => by rw [xs_cons, xs_cons, hl s (by simp), xs_congr L fun t ht => hl t (by simp [ht])]
theorem xs_xor {α : Type} (h h' : α → Bool) : ∀ L : List α, xs L (fun s => xor (h s) (h' s)) = xor (xs L h) (xs L h')
  | [] => rfl
  | s :: L => by
    rw [xs_cons, xs_cons, xs_cons, xs_xor h h' L]
    cases h s <;> cases h' s <;> cases xs L h <;> cases xs L h' <;> rfl
theorem xs_map {α β : Type} (f : α → β) (h : β → Bool) : ∀ L : List α, xs (L.map f) h = xs L fun s => h (f s)
  | [] => rfl
  | s :: L => by rw [List.map_cons, xs_cons, xs_cons, xs_map f h L]
theorem xs_path (F : Pt → Bool) : ∀ (a : Pt) (l : List Pt) (b : Pt), xs (path a (l ++ [b])) (fun s => xor (F s.1) (F s.2)) = xor (F a) (F b)
  | a, [], b => by simp [path, xs]
  | a, c :: l, b => by
    show xs ((a, c) :: path c (l ++ [b])) _ = _
    rw [xs_cons, xs_path F c l b]
    dsimp only
    cases F a <;> cases F b <;> cases F c <;> rfl
theorem xs_cyc (F : Pt → Bool) (l : List Pt) : xs (cyc l) (fun s => xor (F s.1) (F s.2)) = false := by
  cases l with
  | nil => rfl
  | cons x r => show xs (path x (r ++ [x])) _ = _; rw [xs_path, Bool.xor_self]
theorem rim_app (A B : List Sg) (q : Pt) : rim (A ++ B) q = (rim A q || rim B q) := by unfold rim; rw [List.any_append]
theorem par_app (A B : List Sg) (q : Pt) : par (A ++ B) q = xor (par A q) (par B q) := by
  induction A with
  | nil => simp [par]
  | cons s A ih => rw [List.cons_append, par_cons, par_cons, ih, Bool.xor_assoc]
theorem map_path (T : Pt → Pt) : ∀ (a : Pt) (l : List Pt), path (T a) (l.map T) = (path a l).map fun s => (T s.1, T s.2)
  | _, [] => rfl
  | a, b :: r => by
    show (T a, T b) :: path (T b) (r.map T) = (T a, T b) :: (path b r).map _
    rw [map_path T b r]
theorem map_cyc (T : Pt → Pt) (l : List Pt) : cyc (l.map T) = (cyc l).map fun s => (T s.1, T s.2) := by
  cases l with
  | nil => rfl
  | cons x r =>
    show path (T x) (r.map T ++ [T x]) = (path x (r ++ [x])).map _
    rw [← map_path]; simp
theorem path_mem : ∀ (a : Pt) (l : List Pt) (s : Sg), s ∈ path a l → s.1 ∈ a :: l ∧ s.2 ∈ a :: l
  | a, b :: r, s, h => by
    rcases List.mem_cons.1 h with rfl | h
    · simp
    · have := path_mem b r s h
      exact ⟨List.mem_cons_of_mem _ this.1, List.mem_cons_of_mem _ this.2⟩
theorem cyc_mem {l : List Pt} {s : Sg} (h : s ∈ cyc l) : s.1 ∈ l ∧ s.2 ∈ l := by
  cases l with
  | nil => simp [cyc] at h
  | cons x r =>
    have := path_mem x (r ++ [x]) s h
    refine ⟨?_, ?_⟩
    · have := this.1; simp at this ⊢; rcases this with h | h | h <;> simp [h]
    · have := this.2; simp at this ⊢; rcases this with h | h | h <;> simp [h]
/-- Places put elsewhere, so that what lies on one another still does, and what lies to the right changes with the ends alone. -/
theorem at_put (T : Pt → Pt) (F : Pt → Bool) (p : List Pt) (q : Pt)
    (hfit : ∀ x, x = q ∨ x ∈ p → (Fit (T x) ↔ Fit x)) (hinj : ∀ x y, x ∈ p → y ∈ p → (T x = T y ↔ x = y))
    (hon : ∀ a b, Fit a → Fit b → Fit q → (On (T a) (T b) (T q) ↔ On a b q))
    (hpar : ∀ a b, Fit a → Fit b → Fit q → a ≠ b → ¬ On a b q → ((Rgt (T a) (T b) (T q) ↔ Rgt a b q) ↔ (F a = true ↔ F b = true))) :
    atg 1 (cyc (p.map T)) (T q) = atg 1 (cyc p) q := by
  unfold atg
  rw [scl_one, scl_one]
  have hok : okg 1 (cyc (p.map T)) = okg 1 (cyc p) := by
    rw [map_cyc]
    unfold okg
    rw [List.all_map, Bool.eq_iff_iff, List.all_eq_true, List.all_eq_true]
    have key : ∀ s ∈ cyc p, ((Function.comp (fun s => decide (OkG 1 s)) fun s : Sg => (T s.1, T s.2)) s = true ↔ decide (OkG 1 s) = true) := by
      intro s hs
      obtain ⟨m1, m2⟩ := cyc_mem hs
      simp only [Function.comp, decide_eq_true_eq]
      unfold OkG
      simp only [sc_one]
      rw [hfit _ (.inr m1), hfit _ (.inr m2), ne_eq, hinj _ _ m1 m2]
    exact ⟨fun x s hs => (key s hs).1 (x s hs), fun x s hs => (key s hs).2 (x s hs)⟩
  rw [hok]
  by_cases h : okg 1 (cyc p) = true ∧ Fit q
  · have hq : Fit (T q) := (hfit q (.inl rfl)).2 h.2
    rw [if_pos h, if_pos ⟨h.1, hq⟩]
    have hs : ∀ s ∈ cyc p, OkG 1 s := fun s hs => of_decide_eq_true (List.all_eq_true.1 h.1 s hs)
    have hrim : rim (cyc (p.map T)) (T q) = rim (cyc p) q := by
      rw [map_cyc]
      unfold rim
      rw [List.any_map, Bool.eq_iff_iff, List.any_eq_true, List.any_eq_true]
      have key : ∀ s ∈ cyc p, ((Function.comp (fun s : Sg => decide (On s.1 s.2 (T q))) fun s : Sg => (T s.1, T s.2)) s = true ↔ decide (On s.1 s.2 q) = true) := by
        intro s hs'
        have := hs s hs'
        simp only [Function.comp, decide_eq_true_eq]
        exact hon _ _ this.2.1.1 this.2.1.2 h.2
      exact ⟨fun ⟨s, h1, h2⟩ => ⟨s, h1, (key s h1).1 h2⟩, fun ⟨s, h1, h2⟩ => ⟨s, h1, (key s h1).2 h2⟩⟩
    unfold whr
    rw [hrim]
    by_cases hr : rim (cyc p) q = true
    · rw [if_pos hr, if_pos hr]
    · rw [if_neg hr, if_neg hr]
      have hno : ∀ s ∈ cyc p, ¬ On s.1 s.2 q := by
        intro s h1 h2
        exact hr (List.any_eq_true.2 ⟨s, h1, decide_eq_true h2⟩)
      have hpr : par (cyc (p.map T)) (T q) = par (cyc p) q := by
        rw [map_cyc, par_xs, xs_map, par_xs]
        have e : xor (xs (cyc p) fun s => decide (Rgt (T s.1) (T s.2) (T q))) (xs (cyc p) fun s => decide (Rgt s.1 s.2 q)) = false := by
          rw [← xs_xor, ← xs_cyc F p]
          apply xs_congr
          intro s h1
          have h2 := hs s h1
          have := hpar s.1 s.2 h2.2.1.1 h2.2.1.2 h.2 h2.1 (hno s h1)
          revert this
          by_cases c1 : Rgt (T s.1) (T s.2) (T q) <;> by_cases c2 : Rgt s.1 s.2 q <;> simp only [c1, c2, decide_true, decide_false] <;> cases F s.1 <;> cases F s.2 <;> simp
        revert e
        dsimp only
        generalize (xs (cyc p) fun s => decide (Rgt (T s.1) (T s.2) (T q))) = u
        generalize (xs (cyc p) fun s => decide (Rgt s.1 s.2 q)) = v
        cases u <;> cases v <;> simp
      rw [hpr]
  · rw [if_neg h, if_neg]
    exact fun x => h ⟨x.1, (hfit q (.inl rfl)).1 x.2⟩
end Go.Proofs.Ytgbgihofehmjpaa.Pure
