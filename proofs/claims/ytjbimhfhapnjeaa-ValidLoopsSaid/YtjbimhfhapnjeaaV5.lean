/- The way round a loop, plain. -/
import Derived.Test.YtjbimhfhapnjeaaV4
set_option linter.unusedVariables false
set_option linter.unusedSimpArgs false
namespace Go.Proofs.Ytjbimhfhapnjeaa.Pure
open Go.RowKit Go.Proofs.Ytjbimhfhapnjeaa.AM PL

structure Rg (n : Nat) (D : Int → Prop) (nb : Int → Pt) : Prop where
  rng : ∀ v, D v → 0 ≤ v ∧ v < (n : Int)
  ne : ∀ v, D v → (nb v).1 ≠ (nb v).2
  nv : ∀ v, D v → (nb v).1 ≠ v ∧ (nb v).2 ≠ v
  d : ∀ v, D v → D (nb v).1 ∧ D (nb v).2
  sym : ∀ v, D v → ∀ u, (u = (nb v).1 ∨ u = (nb v).2) → (v = (nb u).1 ∨ v = (nb u).2)
def oth (x : Pt) (f : Int) : Int := if x.1 = f then x.2 else x.1
/-- A way, last place first: each but the first and the last stands between its two. -/
def Ch (nb : Int → Pt) : List Int → Prop
  | a :: b :: c :: r => (((nb b).1 = a ∧ (nb b).2 = c) ∨ ((nb b).1 = c ∧ (nb b).2 = a)) ∧ Ch nb (b :: c :: r)
  | _ => True
theorem ch_tail {nb : Int → Pt} {a : Int} {l : List Int} (h : Ch nb (a :: l)) : Ch nb l := by
  match l, h with
  | [], _ => trivial
  | [b], _ => trivial
  | b :: c :: r, h => exact h.2
theorem ch_in {nb : Int → Pt} : ∀ (l : List Int) (b : Int), Ch nb (b :: l) → ∀ x ∈ l, (b :: l).getLast? ≠ some x → (nb x).1 ∈ b :: l ∧ (nb x).2 ∈ b :: l
  | [], b, h, x, hx, _ => by cases hx
  | [c], b, h, x, hx, hn => by
    obtain rfl : x = c := by simpa using hx
    exact absurd (by simp) hn
  | c :: d :: r, b, h, x, hx, hn => by
    rcases List.mem_cons.1 hx with rfl | hx
    · rcases h.1 with ⟨e1, e2⟩ | ⟨e1, e2⟩ <;> rw [e1, e2] <;> simp
    · have := ch_in (d :: r) c h.2 x hx (by rw [List.getLast?_cons_cons] at hn; exact hn)
      exact ⟨List.mem_cons_of_mem _ this.1, List.mem_cons_of_mem _ this.2⟩
structure Wk (D : Int → Prop) (nb : Int → Pt) (i : Int) (fr : Int) (r : List Int) (at' : Int) : Prop where
  nd : (fr :: r).Nodup
  d : ∀ x ∈ fr :: r, D x
  last : (fr :: r).getLast? = some i
  ch : Ch nb (fr :: r)
  to : at' = (nb fr).1 ∨ at' = (nb fr).2
  pr : ∀ p, r.head? = some p → (p = (nb fr).1 ∨ p = (nb fr).2) ∧ at' ≠ p
section
variable {n : Nat} {D : Int → Prop} {nb : Int → Pt} (G : Rg n D nb) {i : Int}
include G
theorem Wk.new {fr : Int} {r : List Int} {at' : Int} (w : Wk D nb i fr r at') (h : at' ≠ i) : at' ∉ fr :: r := by
  intro hm
  have hfr := w.d fr List.mem_cons_self
  rcases List.mem_cons.1 hm with e | hm
  · have := G.nv fr hfr
    rcases w.to with h1 | h1 <;> rw [h1] at e
    · exact this.1 e
    · exact this.2 e
  · cases r with
    | nil => cases hm
    | cons p r =>
      rcases List.mem_cons.1 hm with e | hm'
      · exact (w.pr p rfl).2 e
      · have hl : (p :: r).getLast? ≠ some at' := by
          have := w.last
          rw [List.getLast?_cons_cons] at this
          rw [this]
          intro e
          injection e with e
          exact h e.symm
        have hin := ch_in r p (ch_tail w.ch) at' hm' hl
        have hs := G.sym fr hfr at' w.to
        have hnd := (List.nodup_cons.1 w.nd).1
        rcases hs with e | e <;> rw [e] at hnd
        · exact hnd hin.1
        · exact hnd hin.2
theorem Wk.step {fr : Int} {r : List Int} {at' : Int} (w : Wk D nb i fr r at') (h : at' ≠ i) : Wk D nb i at' (fr :: r) (oth (nb at') fr) := by
  have hfr := w.d fr List.mem_cons_self
  have hD : D at' := by
    rcases w.to with e | e
    · rw [e]; exact (G.d fr hfr).1
    · rw [e]; exact (G.d fr hfr).2
  have hs := G.sym fr hfr at' w.to
  have hne := G.ne at' hD
  refine ⟨List.nodup_cons.2 ⟨w.new G h, w.nd⟩, fun x hx => (List.mem_cons.1 hx).elim (fun e => e ▸ hD) (w.d x), by rw [List.getLast?_cons_cons]; exact w.last, ?_, ?_, fun p hp => ?_⟩
  · cases r with
    | nil => trivial
    | cons p r =>
      obtain ⟨h1, h2⟩ := w.pr p rfl
      have hne' := G.ne fr hfr
      refine ⟨?_, w.ch⟩
      rcases w.to with e1 | e1 <;> rcases h1 with e2 | e2
      · exact absurd (e1.trans e2.symm) h2
      · exact .inl ⟨e1.symm, e2.symm⟩
      · exact .inr ⟨e2.symm, e1.symm⟩
      · exact absurd (e1.trans e2.symm) h2
  · unfold oth; split
    · exact .inr rfl
    · exact .inl rfl
  · obtain rfl : fr = p := by simpa using hp
    refine ⟨hs, ?_⟩
    unfold oth
    split
    · rename_i e; rw [← e]; exact fun e' => hne e'.symm
    · rename_i e; exact e
omit G in
theorem nodup_len : ∀ {l : List Int} {n : Nat}, l.Nodup → (∀ x ∈ l, 0 ≤ x ∧ x < (n : Int)) → l.length ≤ n := by
  intro l n hnd hin
  have h1 : (l.map Int.toNat).Nodup := by
    unfold List.Nodup
    rw [List.pairwise_map]
    refine List.Pairwise.imp_of_mem (fun {a b} ha hb h => ?_) hnd
    have := hin a ha; have := hin b hb
    omega
  have h2 : (l.map Int.toNat) ⊆ List.range n := by
    intro x hx
    obtain ⟨y, hy, rfl⟩ := List.mem_map.1 hx
    have := hin y hy
    rw [List.mem_range]; omega
  have := h1.length_le_of_subset h2
  simpa using this
theorem Wk.len {fr : Int} {r : List Int} {at' : Int} (w : Wk D nb i fr r at') : (fr :: r).length ≤ n := nodup_len w.nd (fun x hx => G.rng x (w.d x hx))
omit G in
theorem Wk.first {v : Int} (h : D v) {a : Int} (ha : a = (nb v).1 ∨ a = (nb v).2) : Wk D nb v v [] a :=
  ⟨by simp, fun x hx => by obtain rfl : x = v := by simpa using hx
                           exact h, rfl, trivial, ha, fun p hp => by cases hp⟩
/-- How a loop goes on, from a way so far. -/
def walk (nb : Int → Pt) (i : Int) : Nat → Int → List Int → Int → List Int
  | 0, fr, r, _ => fr :: r
  | q + 1, fr, r, a => if a = i then fr :: r else walk nb i q a (fr :: r) (oth (nb a) fr)
theorem walk_spec : ∀ (q : Nat) (fr : Int) (r : List Int) (a : Int), Wk D nb i fr r a → n < q + (fr :: r).length → ∃ fr' r', walk nb i q fr r a = fr' :: r' ∧ Wk D nb i fr' r' i ∧ ∀ x ∈ fr :: r, x ∈ fr' :: r'
  | 0, fr, r, a, w, h => by have := w.len G; omega
  | q + 1, fr, r, a, w, h => by
    rw [walk]
    by_cases e : a = i
    · rw [if_pos e]
      subst e
      exact ⟨fr, r, rfl, w, fun x hx => hx⟩
    · rw [if_neg e]
      obtain ⟨fr', r', h1, h2, h3⟩ := walk_spec q a (fr :: r) (oth (nb a) fr) (w.step G e) (by simp at h ⊢; omega)
      exact ⟨fr', r', h1, h2, fun x hx => h3 x (List.mem_cons_of_mem _ hx)⟩
end
def ring (nb : Int → Pt) (n : Nat) (i : Int) : List Int := (walk nb i (n + 1) i [] (mnI (nb i).1 (nb i).2)).reverse
theorem mnI_or (a b : Int) : mnI a b = a ∨ mnI a b = b := by
  unfold mnI
  split
  · exact .inr rfl
  · exact .inl rfl
theorem ring_spec {n : Nat} {D : Int → Prop} {nb : Int → Pt} (G : Rg n D nb) {i : Int} (h : D i) : ∃ fr r, ring nb n i = (fr :: r).reverse ∧ Wk D nb i fr r i ∧ i ∈ fr :: r := by
  obtain ⟨fr, r, h1, h2, h3⟩ := walk_spec G (n + 1) i [] _ (Wk.first h (mnI_or _ _)) (by simp; omega)
  exact ⟨fr, r, by unfold ring; rw [h1], h2, h3 i (by simp)⟩

/-! ### the neighbours -/
def nl (L : List Pt) (v : Int) : List Int := L.flatMap fun s => (if s.1 = v then [s.2] else []) ++ (if s.2 = v then [s.1] else [])
def put (x : Pt) (a : Int) : Pt := if x.1 < 0 then (a, x.2) else (x.1, a)
def nbv (l : List Int) : Pt := l.foldl put (-1, -1)
def nbr (L : List Pt) (v : Int) : Pt := nbv (nl L v)
theorem nl_snoc (L : List Pt) (s : Pt) (v : Int) : nl (L ++ [s]) v = nl L v ++ ((if s.1 = v then [s.2] else []) ++ (if s.2 = v then [s.1] else [])) := by
  unfold nl; rw [List.flatMap_append]; simp
theorem nl_cons (s : Pt) (L : List Pt) (v : Int) : nl (s :: L) v = ((if s.1 = v then [s.2] else []) ++ (if s.2 = v then [s.1] else [])) ++ nl L v := by
  unfold nl; rw [List.flatMap_cons]
theorem nl_len : ∀ (L : List Pt) (v : Int), (nl L v).length = dgr L v
  | [], v => rfl
  | s :: L, v => by
    rw [nl_cons, List.length_append, List.length_append, nl_len L v]
    unfold dgr
    rw [List.countP_cons, List.countP_cons]
    by_cases h1 : s.1 = v <;> by_cases h2 : s.2 = v <;> simp [h1, h2] <;> omega
theorem mem_nl {L : List Pt} {v u : Int} : u ∈ nl L v ↔ ∃ s ∈ L, (s.1 = v ∧ s.2 = u) ∨ (s.2 = v ∧ s.1 = u) := by
  unfold nl
  rw [List.mem_flatMap]
  constructor
  · rintro ⟨s, hs, h⟩
    refine ⟨s, hs, ?_⟩
    rcases List.mem_append.1 h with h | h
    · split at h
      · rename_i e; exact .inl ⟨e, (List.mem_singleton.1 h).symm⟩
      · cases h
    · split at h
      · rename_i e; exact .inr ⟨e, (List.mem_singleton.1 h).symm⟩
      · cases h
  · rintro ⟨s, hs, h⟩
    refine ⟨s, hs, List.mem_append.2 ?_⟩
    rcases h with ⟨e1, e2⟩ | ⟨e1, e2⟩
    · exact .inl (by rw [if_pos e1, e2]; simp)
    · exact .inr (by rw [if_pos e1, e2]; simp)
theorem nl_sym {L : List Pt} {v u : Int} : u ∈ nl L v ↔ v ∈ nl L u := by
  rw [mem_nl, mem_nl]
  constructor
  · rintro ⟨s, hs, h | h⟩
    · exact ⟨s, hs, .inr ⟨h.2, h.1⟩⟩
    · exact ⟨s, hs, .inl ⟨h.2, h.1⟩⟩
  · rintro ⟨s, hs, h | h⟩
    · exact ⟨s, hs, .inr ⟨h.2, h.1⟩⟩
    · exact ⟨s, hs, .inl ⟨h.2, h.1⟩⟩
theorem nrm_eq {s t : Pt} (h : (s.1 = t.1 ∧ s.2 = t.2) ∨ (s.1 = t.2 ∧ s.2 = t.1)) : nrm s = nrm t := by
  unfold nrm mnI mxI
  rcases h with ⟨e1, e2⟩ | ⟨e1, e2⟩ <;> rw [e1, e2]
  refine Prod.ext ?_ ?_ <;> dsimp only <;> (repeat' split) <;> omega
theorem nl_nodup (v : Int) : ∀ {L : List Pt}, (∀ s ∈ L, s.1 ≠ s.2) → L.Pairwise (fun a b => nrm a ≠ nrm b) → (nl L v).Nodup
  | [], _, _ => by simp [nl]
  | s :: L, h, hp => by
    rw [nl_cons]
    have ih := nl_nodup v (fun t ht => h t (List.mem_cons_of_mem _ ht)) (List.pairwise_cons.1 hp).2
    have hs := h s List.mem_cons_self
    have hno := (List.pairwise_cons.1 hp).1
    by_cases e1 : s.1 = v
    · rw [if_pos e1, if_neg (fun e => hs (e1.trans e.symm)), List.append_nil]
      refine List.nodup_cons.2 ⟨fun hm => ?_, ih⟩
      obtain ⟨t, ht, h1⟩ := mem_nl.1 hm
      refine hno t ht (nrm_eq ?_)
      rcases h1 with ⟨a, b⟩ | ⟨a, b⟩
      · exact .inl ⟨e1.trans a.symm, b.symm⟩
      · exact .inr ⟨e1.trans a.symm, b.symm⟩
    · rw [if_neg e1, List.nil_append]
      by_cases e2 : s.2 = v
      · rw [if_pos e2]
        refine List.nodup_cons.2 ⟨fun hm => ?_, ih⟩
        obtain ⟨t, ht, h1⟩ := mem_nl.1 hm
        refine hno t ht (nrm_eq ?_)
        rcases h1 with ⟨a, b⟩ | ⟨a, b⟩
        · exact .inr ⟨b.symm, e2.trans a.symm⟩
        · exact .inl ⟨b.symm, e2.trans a.symm⟩
      · rw [if_neg e2, List.nil_append]; exact ih
/-- Segments that are loops. -/
structure Lp (n : Nat) (L : List Pt) : Prop where
  ok : ∀ s ∈ L, oks n s ∧ s.1 ≠ s.2
  two : L.Pairwise fun a b => nrm a ≠ nrm b
  deg : ∀ v : Nat, v < n → dgr L (v : Int) = 0 ∨ dgr L (v : Int) = 2
theorem Lp.two_nl {n : Nat} {L : List Pt} (h : Lp n L) {v : Int} (hv : dgr L v = 2) : ∃ a b, nl L v = [a, b] ∧ nbr L v = (a, b) ∧ a ≠ b ∧ 0 ≤ a ∧ 0 ≤ b := by
  have hl := nl_len L v
  rw [hv] at hl
  obtain ⟨a, b, e⟩ : ∃ a b, nl L v = [a, b] := by
    match nl L v, hl with
    | [a, b], _ => exact ⟨a, b, rfl⟩
  have hnd := nl_nodup v (fun s hs => (h.ok s hs).2) h.two
  rw [e] at hnd
  have hpos : ∀ u ∈ nl L v, 0 ≤ u := by
    intro u hu
    obtain ⟨s, hs, h1⟩ := mem_nl.1 hu
    have := (h.ok s hs).1
    rcases h1 with ⟨_, h1⟩ | ⟨_, h1⟩ <;> rw [← h1]
    · exact this.2.1
    · exact this.1.1
  have ha := hpos a (by rw [e]; simp)
  have hb := hpos b (by rw [e]; simp)
  refine ⟨a, b, e, ?_, fun e' => by rw [e'] at hnd; simp at hnd, ha, hb⟩
  unfold nbr
  rw [e]
  show put (put (-1, -1) a) b = (a, b)
  unfold put
  rw [if_pos (show ((-1, -1) : Pt).1 < 0 by decide), if_neg (show ¬ ((a, ((-1, -1) : Pt).2) : Pt).1 < 0 by dsimp only; omega)]
theorem Lp.rg {n : Nat} {L : List Pt} (h : Lp n L) : Rg n (fun v => (0 ≤ v ∧ v < (n : Int)) ∧ dgr L v = 2) (nbr L) := by
  have inl : ∀ v, dgr L v = 2 → ∀ u, u ∈ nl L v ↔ (u = (nbr L v).1 ∨ u = (nbr L v).2) := by
    intro v hv u
    obtain ⟨a, b, e, e', _⟩ := h.two_nl hv
    rw [e, e']; simp
  have rngu : ∀ v u, u ∈ nl L v → (0 ≤ u ∧ u < (n : Int)) ∧ u ≠ v := by
    intro v u hu
    obtain ⟨s, hs, h1⟩ := mem_nl.1 hu
    have h2 := h.ok s hs
    rcases h1 with ⟨e1, e2⟩ | ⟨e1, e2⟩
    · rw [← e1, ← e2]; exact ⟨h2.1.2, fun e => h2.2 e.symm⟩
    · rw [← e1, ← e2]; exact ⟨h2.1.1, h2.2⟩
  have deg2 : ∀ v u, u ∈ nl L v → dgr L u = 2 := by
    intro v u hu
    obtain ⟨⟨h0, h1⟩, _⟩ := rngu v u hu
    obtain ⟨w, rfl⟩ := Int.eq_ofNat_of_zero_le h0
    have hv : v ∈ nl L (w : Int) := nl_sym.1 hu
    rcases h.deg w (by omega) with h2 | h2
    · have := nl_len L (w : Int)
      rw [h2] at this
      rw [List.eq_nil_of_length_eq_zero this] at hv
      cases hv
    · exact h2
  refine ⟨fun v hv => hv.1, fun v hv => ?_, fun v hv => ?_, fun v hv => ?_, fun v hv u hu => ?_⟩
  · obtain ⟨a, b, e, e', hne, _⟩ := h.two_nl hv.2
    rw [e']; exact hne
  · exact ⟨(rngu v _ ((inl v hv.2 _).2 (.inl rfl))).2, (rngu v _ ((inl v hv.2 _).2 (.inr rfl))).2⟩
  · have h1 := (inl v hv.2 _).2 (.inl rfl)
    have h2 := (inl v hv.2 _).2 (.inr rfl)
    exact ⟨⟨(rngu v _ h1).1, deg2 v _ h1⟩, ⟨(rngu v _ h2).1, deg2 v _ h2⟩⟩
  · have hm := (inl v hv.2 u).2 hu
    exact (inl u (deg2 v u hm) v).1 (nl_sym.1 hm)
end Go.Proofs.Ytjbimhfhapnjeaa.Pure
