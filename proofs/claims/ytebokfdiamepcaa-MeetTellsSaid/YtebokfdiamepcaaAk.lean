/- The abstract machine, 27: what is handed over. -/
import Derived.Test.YtebokfdiamepcaaAj
set_option linter.unusedVariables false
set_option linter.unusedSimpArgs false
namespace Go.Proofs.Ytebokfdiamepcaa.AM
open Go.RowKit

section
variable {Γ Γ' : Gh} (hw : ∀ b, Γ.R b → Γ'.w.heap[b]? = Γ.w.heap[b]?) (hR : ∀ b, Γ.R b → Γ'.R b)
include hw hR
theorem av_mono {κ : Kd} {x : κ.T} {u : Value} (h : RepV Γ (κ.av x) u) : RepV Γ' (κ.av x) u := by
  cases κ with
  | pair a b =>
    simp only [Kd.av, RepV] at h ⊢
    obtain ⟨vs, rfl, h⟩ := h
    exact ⟨vs, rfl, h.pure hw hR (cells_pure _ x)⟩
  | _ => exact RepV.pure hw hR rfl h
theorem kptr_mono {cs : List AV} {u : Value} (h : RepV Γ (.kptr cs) u) : RepV Γ' (.kptr cs) u := by
  simp only [RepV] at h ⊢
  obtain ⟨ad, us, rfl, hr, hp, hl, hc⟩ := h
  refine ⟨ad, us, rfl, hR _ hr, hp, hl.pure hw hR hp, fun j u hj => ?_⟩
  rw [World.cell?_of_block (w := Γ.w) (by rw [add_block]; exact hw _ hr)]
  exact hc j u hj
theorem sp_mono {p : SP} {x : p.T} {u : Value} (h : RepV Γ (p.av x) u) : RepV Γ' (p.av x) u := by
  cases p with
  | d κ => exact av_mono (κ := κ) hw hR h
  | kp κ => exact kptr_mono hw hR h
theorem sps_mono : ∀ {l : List SP} {x : prodT (l.map SP.T)} {us : List Value}, RepL Γ (spAv l x) us → RepL Γ' (spAv l x) us
  | [], _, _, h => by simpa only [spAv, RepL] using h
  | [p], x, us, h => by
    obtain ⟨u, rfl, hu⟩ := RepL.one.1 (show RepL Γ [p.av x] us from h)
    exact RepL.one.2 ⟨u, rfl, sp_mono hw hR hu⟩
  | p :: q :: r, x, us, h => by
    replace h : RepL Γ (p.av x.1 :: spAv (q :: r) x.2) us := h
    simp only [RepL] at h
    obtain ⟨u, us', rfl, hu, h⟩ := h
    show RepL Γ' (p.av x.1 :: spAv (q :: r) x.2) (u :: us')
    simp only [RepL]
    exact ⟨u, us', rfl, sp_mono hw hR hu, sps_mono h⟩
end

/-- What may be handed over. -/
def Sh.param : Sh → Bool
  | .d _ => true
  | .kp _ => true
  | .fn _ _ _ => true
  | _ => false
section
variable {Γ Γ' : Gh} (hw : ∀ b, Γ.R b → Γ'.w.heap[b]? = Γ.w.heap[b]?) (hR : ∀ b, Γ.R b → Γ'.R b)
include hw hR
theorem sh_mono {h : Sh} (hp : h.param = true) {b : Nat} {x : h.T} {u : Value} (hv : RepV Γ (h.av b x) u) : RepV Γ' (h.av b x) u := by
  cases h with
  | d κ => exact av_mono (κ := κ) hw hR hv
  | kp κ => exact kptr_mono hw hR hv
  | fn f a c =>
    replace hv : RepV Γ (.fn f (spAv a x.1) (spAv c x.2)) u := hv
    show RepV Γ' (.fn f (spAv a x.1) (spAv c x.2)) u
    simp only [RepV] at hv ⊢
    obtain ⟨us, vs, rfl, h1, h2⟩ := hv
    exact ⟨us, vs, rfl, sps_mono hw hR h1, sps_mono hw hR h2⟩
  | row e t => cases hp
  | box l => cases hp
theorem encA_mono : ∀ {ps : List Sh} {x : shT ps} {us : List Value}, ps.all Sh.param = true → RepL Γ (encA ps x) us → RepL Γ' (encA ps x) us
  | [], _, _, _, h => by simpa only [encA, RepL] using h
  | [p], x, us, hp, h => by
    obtain ⟨u, rfl, hu⟩ := RepL.one.1 (show RepL Γ [p.av 0 x] us from h)
    exact RepL.one.2 ⟨u, rfl, sh_mono hw hR (by simpa using hp) hu⟩
  | p :: q :: r, x, us, hp, h => by
    replace h : RepL Γ (p.av 0 x.1 :: encA (q :: r) x.2) us := h
    rw [List.all_cons, Bool.and_eq_true] at hp
    simp only [RepL] at h
    obtain ⟨u, us', rfl, hu, h⟩ := h
    show RepL Γ' (p.av 0 x.1 :: encA (q :: r) x.2) (u :: us')
    simp only [RepL]
    exact ⟨u, us', rfl, sh_mono hw hR hp.1 hu, encA_mono hp.2 h⟩
theorem encRL_mono : ∀ {rk : List Kd} {x : kdT rk} {us : List Value}, RepL Γ (encRL rk x) us → RepL Γ' (encRL rk x) us
  | [], _, _, h => by simpa only [encRL, RepL] using h
  | [κ], x, us, h => by
    obtain ⟨u, rfl, hu⟩ := RepL.one.1 (show RepL Γ [κ.av x] us from h)
    exact RepL.one.2 ⟨u, rfl, av_mono hw hR hu⟩
  | κ :: q :: r, x, us, h => by
    replace h : RepL Γ (κ.av x.1 :: encRL (q :: r) x.2) us := h
    simp only [RepL] at h
    obtain ⟨u, us', rfl, hu, h⟩ := h
    show RepL Γ' (κ.av x.1 :: encRL (q :: r) x.2) (u :: us')
    simp only [RepL]
    exact ⟨u, us', rfl, av_mono hw hR hu, encRL_mono h⟩
theorem encR_mono {rk : List Kd} {x : kdT rk} {u : Value} (h : RepV Γ (encR rk x) u) : RepV Γ' (encR rk x) u := by
  match rk, x, h with
  | [], x, h =>
    replace h : RepV Γ (.tup (encRL [] x)) u := h
    show RepV Γ' (.tup (encRL [] x)) u
    simp only [RepV] at h ⊢
    obtain ⟨vs, rfl, hl⟩ := h
    exact ⟨vs, rfl, encRL_mono hw hR hl⟩
  | [κ], x, h => exact av_mono (κ := κ) hw hR h
  | κ :: q :: r, x, h =>
    replace h : RepV Γ (.tup (encRL (κ :: q :: r) x)) u := h
    show RepV Γ' (.tup (encRL (κ :: q :: r) x)) u
    simp only [RepV] at h ⊢
    obtain ⟨vs, rfl, hl⟩ := h
    exact ⟨vs, rfl, encRL_mono hw hR hl⟩
/-- What is lent says the same to whoever has nothing of its own. -/
theorem lendP_mono {m : Mem} {v : AV} {u : Value} (h : RepV Γ (lendP m v) u) : RepV Γ' (lendP m v) u := by
  by_cases h1 : ∃ cs, v = .agg cs
  · obtain ⟨cs, rfl⟩ := h1
    simp only [lendP, RepV] at h ⊢
    obtain ⟨vs, rfl, h⟩ := h
    exact ⟨vs, rfl, h.pure hw hR (lendC_all m cs)⟩
  by_cases h2 : ∃ cs, v = .kptr cs
  · obtain ⟨cs, rfl⟩ := h2
    exact kptr_mono hw hR h
  by_cases h3 : ∃ id, v = .ptr id 0
  · obtain ⟨id, rfl⟩ := h3
    cases hb : m.box id with
    | none =>
      simp only [lendP, hb, RepV]
    | some b =>
      simp only [lendP, hb] at h ⊢
      exact kptr_mono hw hR h
  have e : lendP m v = lendC m v := by
    unfold lendP
    split
    · exact absurd ⟨_, rfl⟩ h1
    · exact absurd ⟨_, rfl⟩ h2
    · exact absurd ⟨_, rfl⟩ h3
    · rfl
  rw [e] at h ⊢
  exact h.pure hw hR (lendC_pure m _)
theorem lendPs_mono {m : Mem} : ∀ {cs : List AV} {us : List Value}, RepL Γ (cs.map (lendP m)) us → RepL Γ' (cs.map (lendP m)) us
  | [], _, h => by simpa only [List.map_nil, RepL] using h
  | c :: cs, us, h => by
    simp only [List.map_cons, RepL] at h ⊢
    obtain ⟨u, us', rfl, hu, h⟩ := h
    exact ⟨u, us', rfl, lendP_mono hw hR hu, lendPs_mono h⟩
theorem lend_mono {m : Mem} {v : AV} {u : Value} (h : RepV Γ (lend m v) u) : RepV Γ' (lend m v) u := by
  by_cases hf : ∀ f a b, v ≠ .fn f a b
  · rw [(notFn (m := m) hf).1] at h ⊢
    exact lendP_mono hw hR h
  · cases v
    case fn f a b =>
      simp only [lend, RepV] at h ⊢
      obtain ⟨us, vs, rfl, h1, h2⟩ := h
      exact ⟨us, vs, rfl, lendPs_mono hw hR h1, lendPs_mono hw hR h2⟩
    all_goals exact (hf (fun _ _ _ e => by cases e)).elim
theorem lends_mono {m : Mem} : ∀ {cs : List AV} {us : List Value}, RepL Γ (cs.map (lend m)) us → RepL Γ' (cs.map (lend m)) us
  | [], _, h => by simpa only [List.map_nil, RepL] using h
  | c :: cs, us, h => by
    simp only [List.map_cons, RepL] at h ⊢
    obtain ⟨u, us', rfl, hu, h⟩ := h
    exact ⟨u, us', rfl, lend_mono hw hR hu, lends_mono h⟩
end

/-- Nothing of its own. -/
def bare (w : World) (R : Nat → Prop) : Gh := ⟨w, R, fun _ => none, fun _ => none, fun _ => none⟩
theorem bare_rel {w : World} {R : Nat → Prop} (h : ∀ b, R b → b < w.heap.size) : MemRel w.heap.size w (bare w R) Mem.clear :=
  ⟨Below.refl _ _, Nat.le_refl _, h, fun i b h => (by cases h), fun i b h => (by cases h), fun i j b h => (by cases h), fun i j u v g h => (by cases h), fun i j u g h => (by cases h), fun i b h => (by cases h)⟩
theorem bare_bare (w : World) (R : Nat → Prop) : Bare (bare w R) := ⟨fun _ => rfl, fun _ => rfl, fun _ => rfl⟩

/-! ### Arguments, decoded -/
theorem sp_dec {Γ : Gh} {p : SP} {v : AV} {u : Value} {x : p.T} (h : p.dec v = some x) (hv : RepV Γ v u) : RepV Γ (p.av x) u := by
  cases p with
  | d κ => exact decV_av (κ := κ) h hv
  | kp κ =>
    cases v
    case kptr cs =>
      replace h : (match Kd.dec κ cs with
        | some (x, []) => some x
        | _ => none : Option κ.T) = some x := h
      split at h
      · rename_i y hy
        injection h with h
        subst h
        simp only [RepV] at hv
        obtain ⟨ad, us, rfl, hR, hpu, hl, hc⟩ := hv
        obtain ⟨u1, ws, e, h2, h3⟩ := dec_rep hy hl
        simp only [RepL] at h3
        subst h3
        rw [List.append_nil] at e
        subst e
        simp only [SP.av, RepV]
        exact ⟨ad, us, rfl, hR, cells_pure κ y, h2.cells, hc⟩
      · cases h
    all_goals exact absurd (show (none : Option κ.T) = some x from h) (by simp)
theorem sps_dec {Γ : Gh} : ∀ {l : List SP} {cs : List AV} {us : List Value} {x : prodT (l.map SP.T)}, spDec l cs = some x → RepL Γ cs us → RepL Γ (spAv l x) us
  | [], cs, us, x, h, hr => by
    cases cs with
    | nil => simpa only [spAv, RepL] using hr
    | cons c cs => exact absurd (show (none : Option Unit) = some x from h) (by simp)
  | [p], cs, us, x, h, hr => by
    cases cs with
    | nil => exact absurd (show (none : Option p.T) = some x from h) (by simp)
    | cons c cs =>
      cases cs with
      | cons c' cs => exact absurd (show (none : Option p.T) = some x from h) (by simp)
      | nil =>
        obtain ⟨u, rfl, hu⟩ := RepL.one.1 hr
        exact RepL.one.2 ⟨u, rfl, sp_dec (show p.dec c = some x from h) hu⟩
  | p :: q :: l, cs, us, x, h, hr => by
    cases cs with
    | nil => exact absurd (show (none : Option (p.T × prodT ((q :: l).map SP.T))) = some x from h) (by simp)
    | cons c cs =>
      replace h : (match p.dec c, spDec (q :: l) cs with
        | some x, some y => some (x, y)
        | _, _ => none : Option (p.T × prodT ((q :: l).map SP.T))) = some x := h
      split at h
      · rename_i y z hy hz
        injection h with h
        subst h
        simp only [RepL] at hr
        obtain ⟨u, us', rfl, hu, hr⟩ := hr
        show RepL Γ (p.av y :: spAv (q :: l) z) (u :: us')
        simp only [RepL]
        exact ⟨u, us', rfl, sp_dec hy hu, sps_dec hz hr⟩
      · cases h
section
variable {w : World} {R : Nat → Prop} (hlt : ∀ b, R b → b < w.heap.size)
include hlt
theorem sh_dec {h : Sh} (hp : h.param = true) {v : AV} {u : Value} {x : h.T} (hd : h.dec Mem.clear v = some x) (hv : RepV (bare w R) v u) : RepV (bare w R) (h.av 0 x) u := by
  cases h with
  | d κ =>
    have L : ∀ r p, Lends (bare w R) (bare w R) Mem.clear r p := fun r p => ⟨rfl, fun _ h => h, fun b ⟨_, _, ⟨_, h, _⟩, _⟩ => (by cases h), fun _ _ _ h => (by cases h)⟩
    exact decV_av (κ := κ) hd (lendP_rep (bare_rel hlt) (L _ _) hv)
  | kp κ => exact sp_dec (p := .kp κ) (by
      cases v
      case kptr cs => exact hd
      all_goals exact absurd (show (none : Option κ.T) = some x from hd) (by simp)) hv
  | fn f la lb =>
    cases v
    case fn g a c =>
      replace hd : cond (Nat.beq f g) (match spDec la a, spDec lb c with
        | some x, some y => some (x, y)
        | _, _ => none) (none : Option (prodT (la.map SP.T) × prodT (lb.map SP.T))) = some x := hd
      obtain ⟨hg, hd2⟩ := cond_some hd
      clear hd
      have := Nat.eq_of_beq_eq_true hg
      subst this
      split at hd2
      · rename_i y z hy hz
        injection hd2 with hd2
        subst hd2
        simp only [RepV] at hv
        obtain ⟨us, vs, rfl, h1, h2⟩ := hv
        show RepV (bare w R) (.fn f (spAv la y) (spAv lb z)) _
        simp only [RepV]
        exact ⟨us, vs, rfl, sps_dec hy h1, sps_dec hz h2⟩
      · cases hd2
    all_goals exact absurd (show (none : Option (prodT (la.map SP.T) × prodT (lb.map SP.T))) = some x from hd) (by simp)
  | row e t => cases hp
  | box l => cases hp
theorem decA_rep : ∀ {ps : List Sh} {vs : List AV} {us : List Value} {x : shT ps}, ps.all Sh.param = true → decA ps vs = some x → RepL (bare w R) vs us → RepL (bare w R) (encA ps x) us
  | [], cs, us, x, hp, h, hr => by
    cases cs with
    | nil => simpa only [encA, RepL] using hr
    | cons c cs => exact absurd (show (none : Option Unit) = some x from h) (by simp)
  | [p], cs, us, x, hp, h, hr => by
    cases cs with
    | nil => exact absurd (show (none : Option p.T) = some x from h) (by simp)
    | cons c cs =>
      cases cs with
      | cons c' cs => exact absurd (show (none : Option p.T) = some x from h) (by simp)
      | nil =>
        obtain ⟨u, rfl, hu⟩ := RepL.one.1 hr
        exact RepL.one.2 ⟨u, rfl, sh_dec hlt (by simpa using hp) (show p.dec Mem.clear c = some x from h) hu⟩
  | p :: q :: l, cs, us, x, hp, h, hr => by
    rw [List.all_cons, Bool.and_eq_true] at hp
    cases cs with
    | nil => exact absurd (show (none : Option (p.T × shT (q :: l))) = some x from h) (by simp)
    | cons c cs =>
      replace h : (match p.dec Mem.clear c, decA (q :: l) cs with
        | some x, some y => some (x, y)
        | _, _ => none : Option (p.T × shT (q :: l))) = some x := h
      split at h
      · rename_i y z hy hz
        injection h with h
        subst h
        simp only [RepL] at hr
        obtain ⟨u, us', rfl, hu, hr⟩ := hr
        show RepL (bare w R) (p.av 0 y :: encA (q :: l) z) (u :: us')
        simp only [RepL]
        exact ⟨u, us', rfl, sh_dec hlt hp.1 hy hu, decA_rep hp.2 hz hr⟩
      · cases h
end
theorem decRL_rep {Γ : Gh} : ∀ {rk : List Kd} {vs : List AV} {us : List Value} {x : kdT rk}, decRL rk vs = some x → RepL Γ vs us → RepL Γ (encRL rk x) us
  | [], cs, us, x, h, hr => by
    cases cs with
    | nil => simpa only [encRL, RepL] using hr
    | cons c cs => exact absurd (show (none : Option Unit) = some x from h) (by simp)
  | [κ], cs, us, x, h, hr => by
    cases cs with
    | nil => exact absurd (show (none : Option κ.T) = some x from h) (by simp)
    | cons c cs =>
      cases cs with
      | cons c' cs => exact absurd (show (none : Option κ.T) = some x from h) (by simp)
      | nil =>
        obtain ⟨u, rfl, hu⟩ := RepL.one.1 hr
        exact RepL.one.2 ⟨u, rfl, decV_av (show decV κ c = some x from h) hu⟩
  | κ :: q :: l, cs, us, x, h, hr => by
    cases cs with
    | nil => exact absurd (show (none : Option (κ.T × kdT (q :: l))) = some x from h) (by simp)
    | cons c cs =>
      replace h : (match decV κ c, decRL (q :: l) cs with
        | some x, some y => some (x, y)
        | _, _ => none : Option (κ.T × kdT (q :: l))) = some x := h
      split at h
      · rename_i y z hy hz
        injection h with h
        subst h
        simp only [RepL] at hr
        obtain ⟨u, us', rfl, hu, hr⟩ := hr
        show RepL Γ (κ.av y :: encRL (q :: l) z) (u :: us')
        simp only [RepL]
        exact ⟨u, us', rfl, decV_av hy hu, decRL_rep hz hr⟩
      · cases h
theorem decR_rep {Γ : Gh} {rk : List Kd} {v : AV} {u : Value} {x : kdT rk} (h : decR rk v = some x) (hr : RepV Γ v u) : RepV Γ (encR rk x) u := by
  match rk, x, h with
  | [], x, h =>
    cases v
    case tup vs =>
      simp only [RepV] at hr
      obtain ⟨us, rfl, hr⟩ := hr
      show RepV Γ (.tup (encRL [] x)) _
      simp only [RepV]
      exact ⟨us, rfl, decRL_rep h hr⟩
    all_goals exact absurd (show (none : Option Unit) = some x from h) (by simp)
  | [κ], x, h => exact decV_av (κ := κ) h hr
  | κ :: q :: r, x, h =>
    cases v
    case tup vs =>
      simp only [RepV] at hr
      obtain ⟨us, rfl, hr⟩ := hr
      show RepV Γ (.tup (encRL (κ :: q :: r) x)) _
      simp only [RepV]
      exact ⟨us, rfl, decRL_rep h hr⟩
    all_goals exact absurd (show (none : Option (κ.T × kdT (q :: r))) = some x from h) (by simp)

/-! ### Flat data needs no blocks -/
theorem flat_cells {Γ Γ' : Gh} : ∀ {κ : Kd}, κ.flat = true → ∀ {x : κ.T} {us : List Value}, RepL Γ (κ.cells x) us → RepL Γ' (κ.cells x) us
  | .int _, _, x, us, h => by simpa only [Kd.cells, RepL, RepV] using h
  | .bool, _, x, us, h => by simpa only [Kd.cells, RepL, RepV] using h
  | .str, _, x, us, h => by simpa only [Kd.cells, RepL, RepV] using h
  | .sl _, hf, _, _, _ => by cases hf
  | .pair a b, hf, x, us, h => by
    simp only [Kd.flat, Bool.and_eq_true] at hf
    simp only [Kd.cells] at h ⊢
    obtain ⟨us, ws, rfl, h1, h2⟩ := RepL.split h
    exact (flat_cells hf.1 h1).app (flat_cells hf.2 h2)
theorem flat_av {Γ Γ' : Gh} {κ : Kd} (hf : κ.flat = true) {x : κ.T} {u : Value} (h : RepV Γ (κ.av x) u) : RepV Γ' (κ.av x) u := by
  cases κ with
  | pair a b =>
    simp only [Kd.av, RepV] at h ⊢
    obtain ⟨vs, rfl, h⟩ := h
    exact ⟨vs, rfl, flat_cells hf h⟩
  | sl e => cases hf
  | _ => simpa only [Kd.av, RepV] using h
theorem flat_encRL {Γ Γ' : Gh} : ∀ {rk : List Kd} {x : kdT rk} {us : List Value}, rk.all Kd.flat = true → RepL Γ (encRL rk x) us → RepL Γ' (encRL rk x) us
  | [], _, _, _, h => by simpa only [encRL, RepL] using h
  | [κ], x, us, hf, h => by
    obtain ⟨u, rfl, hu⟩ := RepL.one.1 (show RepL Γ [κ.av x] us from h)
    exact RepL.one.2 ⟨u, rfl, flat_av (by simpa using hf) hu⟩
  | κ :: q :: r, x, us, hf, h => by
    rw [List.all_cons, Bool.and_eq_true] at hf
    replace h : RepL Γ (κ.av x.1 :: encRL (q :: r) x.2) us := h
    simp only [RepL] at h
    obtain ⟨u, us', rfl, hu, h⟩ := h
    show RepL Γ' (κ.av x.1 :: encRL (q :: r) x.2) (u :: us')
    simp only [RepL]
    exact ⟨u, us', rfl, flat_av hf.1 hu, flat_encRL hf.2 h⟩
theorem flat_encR {Γ Γ' : Gh} {rk : List Kd} (hf : rk.all Kd.flat = true) {x : kdT rk} {u : Value} (h : RepV Γ (encR rk x) u) : RepV Γ' (encR rk x) u := by
  match rk, hf, x, h with
  | [], hf, x, h =>
    replace h : RepV Γ (.tup (encRL [] x)) u := h
    show RepV Γ' (.tup (encRL [] x)) u
    simp only [RepV] at h ⊢
    obtain ⟨vs, rfl, hl⟩ := h
    exact ⟨vs, rfl, flat_encRL hf hl⟩
  | [κ], hf, x, h => exact flat_av (κ := κ) (by simpa using hf) h
  | κ :: q :: r, hf, x, h =>
    replace h : RepV Γ (.tup (encRL (κ :: q :: r) x)) u := h
    show RepV Γ' (.tup (encRL (κ :: q :: r) x)) u
    simp only [RepV] at h ⊢
    obtain ⟨vs, rfl, hl⟩ := h
    exact ⟨vs, rfl, flat_encRL hf hl⟩
end Go.Proofs.Ytebokfdiamepcaa.AM
