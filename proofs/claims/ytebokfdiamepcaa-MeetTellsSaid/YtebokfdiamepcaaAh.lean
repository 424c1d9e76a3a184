/- The abstract machine, 24: what is known where ways meet. -/
import Derived.Test.YtebokfdiamepcaaAg
set_option linter.unusedVariables false
set_option linter.unusedSimpArgs false
namespace Go.Proofs.Ytebokfdiamepcaa.AM
open Go.RowKit

theorem dec_len (κ : Kd) : ∀ {cs r : List AV} {x : κ.T}, Kd.dec κ cs = some (x, r) → cs.length = κ.size + r.length := by
  induction κ with
  | pair a b iha ihb =>
    intro cs r x h
    simp only [Kd.dec] at h
    split at h
    · rename_i y r1 ha
      split at h
      · rename_i z r2 hb
        cases h
        rw [iha ha, ihb hb, Kd.size]
        omega
      · cases h
    · cases h
  | int k =>
    intro cs r x h
    cases cs with
    | nil => simp [Kd.dec] at h
    | cons c cs =>
      cases c <;> simp only [Kd.dec] at h <;> try (cases h; done)
      split at h
      · cases h; simp [Kd.size, Nat.add_comm]
      · cases h
  | bool =>
    intro cs r x h
    cases cs with
    | nil => simp [Kd.dec] at h
    | cons c cs =>
      cases c <;> simp only [Kd.dec] at h <;> try (cases h; done)
      cases h; simp [Kd.size, Nat.add_comm]
  | str =>
    intro cs r x h
    cases cs with
    | nil => simp [Kd.dec] at h
    | cons c cs =>
      cases c <;> simp only [Kd.dec] at h <;> try (cases h; done)
      cases h; simp [Kd.size, Nat.add_comm]
  | sl e =>
    intro cs r x h
    cases cs with
    | nil => simp [Kd.dec] at h
    | cons c cs =>
      cases c <;> simp only [Kd.dec] at h <;> try (cases h; done)
      · cases h; simp [Kd.size, Nat.add_comm]
      · split at h
        · cases h; simp [Kd.size, Nat.add_comm]
        · cases h

theorem decV_av {Γ : Gh} {κ : Kd} {v : AV} {u : Value} {x : κ.T} (h : decV κ v = some x) (hv : RepV Γ v u) : RepV Γ (κ.av x) u := by
  have one : ∀ {κ : Kd} {x : κ.T}, (match Kd.dec κ [v] with
      | some (x, []) => some x
      | _ => none) = some x → RepT Γ.w Γ.R κ x [u] := by
    intro κ x h
    split at h
    · rename_i y hy
      injection h with h
      subst h
      obtain ⟨us, ws, e, h1, h2⟩ := dec_rep hy (RepL.one.2 ⟨u, rfl, hv⟩)
      simp only [RepL] at h2
      subst h2
      rw [List.append_nil] at e
      subst e
      exact h1
    · cases h
  unfold decV at h
  split at h
  · rename_i a b cs
    split at h
    · rename_i y hd
      injection h with h
      subst h
      simp only [RepV] at hv
      obtain ⟨vs, rfl, hvs⟩ := hv
      obtain ⟨us, ws, rfl, h1, h2⟩ := dec_rep hd hvs
      simp only [RepL] at h2
      subst h2
      simp only [Kd.av, RepV, List.append_nil]
      exact ⟨us, rfl, h1.cells⟩
    · cases h
  · cases h
  · cases h
  · rename_i κ' v' hp _ _
    have := one h
    cases κ
    case pair a b => exact (hp _ _ rfl).elim
    all_goals simp only [RepT] at this
    case sl e =>
      simp only [Kd.av, RepV, RepT]
      exact this
    all_goals (simp only [Kd.av, RepV]; simpa using this)

/-- A variable that is there already is given a number. -/
theorem MemRel.addBoxAt {B : Nat} {w0 : World} {Γ : Gh} {m : Mem} (M : MemRel B w0 Γ m) {id blk : Nat} (hn : m.new id = true) {cs : List AV} {us : Array Value} {ty : TypeId} (hb0 : Γ.w.heap[blk]? = some (.cells us ty (0, 0))) (hB : B ≤ blk) (hr : RepL Γ cs us.toList) (hF : Free Γ m blk) :
    MemRel B w0 { Γ with μ := upd Γ.μ id (some blk) } { m with box := upd m.box id (some ⟨cs, false⟩) } ∧ Ext B Γ { Γ with μ := upd Γ.μ id (some blk) } := by
  have hμ := M.newμ hn
  have E : Ext B Γ { Γ with μ := upd Γ.μ id (some blk) } := ⟨fun _ h => h, fun _ _ => rfl, fun i b h => by
    show upd Γ.μ id _ i = some b
    by_cases hi : i = id
    · subst hi; rw [hμ] at h; cases h
    · rw [upd_other _ _ hi]; exact h, fun _ _ h => h, fun _ _ h => h, fun _ h => .inl h⟩
  refine ⟨⟨M.below, M.base, M.rlt, fun i b hi => ?_, fun i u hu => ?_, fun i j b hi hj => ?_, M.rr, fun i j u g hu hg hl hj => ?_, M.map⟩, E⟩
  · have hi' : upd Γ.μ id (some blk) i = some b := hi
    show ∃ a, upd m.box id (some ⟨cs, false⟩) i = some a ∧ _
    by_cases h : i = id
    · subst h
      rw [upd_same] at hi'
      injection hi' with hi'
      subst hi'
      exact ⟨_, upd_same _ _ _, hB, ⟨us, ty, hb0, hr.ext E⟩, .inr ⟨rfl, hF.1⟩⟩
    · rw [upd_other _ _ h] at hi' ⊢
      obtain ⟨a, ha, hb⟩ := M.box i b hi'
      exact ⟨a, ha, hb.keep E rfl fun h => h⟩
  · obtain ⟨a, ha, hb⟩ := M.row i u hu
    exact ⟨a, ha, fun hd => (hb hd).keep E (fun _ _ => rfl) fun _ _ h => h⟩
  · have h1 : upd Γ.μ id (some blk) i = some b := hi
    have h2 : upd Γ.μ id (some blk) j = some b := hj
    by_cases ei : i = id <;> by_cases ej : j = id
    · rw [ei, ej]
    · subst ei
      rw [upd_same] at h1
      injection h1 with h1
      subst h1
      rw [upd_other _ _ ej] at h2
      exact absurd h2 (hF.2.1 j)
    · subst ej
      rw [upd_same] at h2
      injection h2 with h2
      subst h2
      rw [upd_other _ _ ei] at h1
      exact absurd h1 (hF.2.1 i)
    · rw [upd_other _ _ ei] at h1
      rw [upd_other _ _ ej] at h2
      exact M.bb i j b h1 h2
  · have h2 : upd Γ.μ id (some blk) j = some g := hj
    by_cases ej : j = id
    · subst ej
      rw [upd_same] at h2
      injection h2 with h2
      subst h2
      exact hF.2.2 i u hu hl hg
    · rw [upd_other _ _ ej] at h2
      exact M.rb i j u g hu hg hl h2

/-! ### The memory behind a cut is built anew -/
structure Bld (B : Nat) (w0 : World) (Γ1 : Gh) (m1 : Mem) (own : List Nat) (base : Nat) (Γk : Gh) (mk : Mem) : Prop where
  rel : MemRel B w0 Γk mk
  w : Γk.w = Γ1.w
  R : Γk.R = Γ1.R
  μ : ∀ i b, Γk.μ i = some b → ∃ j ∈ own, Γ1.μ j = some b
  ν : ∀ i v, Γk.ν i = some v → v.ownBlock = none ∨ ∃ j ∈ own, m1.live j ∧ Γ1.ν j = some v
  fresh : ∀ i, base ≤ i → mk.new i = true
theorem Bld.weak {B : Nat} {w0 : World} {Γ1 : Gh} {m1 : Mem} {own own' : List Nat} {base base' : Nat} {Γk : Gh} {mk : Mem} (h : Bld B w0 Γ1 m1 own base Γk mk) (ho : ∀ j ∈ own, j ∈ own') (hb : base ≤ base') : Bld B w0 Γ1 m1 own' base' Γk mk :=
  ⟨h.rel, h.w, h.R, fun i b hi => let ⟨j, hj, k⟩ := h.μ i b hi; ⟨j, ho j hj, k⟩, fun i v hi => (h.ν i v hi).imp id fun ⟨j, hj, k⟩ => ⟨j, ho j hj, k⟩, fun i hi => h.fresh i (by omega)⟩

theorem new_updRow {m : Mem} {id i : Nat} {a : RowA} (h : m.new i = true) (hi : i ≠ id) : ({ m with row := upd m.row id (some a) } : Mem).new i = true := by
  have h1 := new_box h
  have h2 := new_row h
  unfold Mem.new at h ⊢
  simp only [upd_other _ _ hi]
  exact h
theorem new_updBox {m : Mem} {id i : Nat} {a : BoxA} (h : m.new i = true) (hi : i ≠ id) : ({ m with box := upd m.box id (some a) } : Mem).new i = true := by
  unfold Mem.new at h ⊢
  simp only [upd_other _ _ hi]
  exact h

section
variable {B : Nat} {w0 : World} {Γ1 : Gh} {m1 : Mem} (M1 : MemRel B w0 Γ1 m1)
theorem Bld.nil {own : List Nat} {base : Nat} {Γk : Gh} {mk : Mem} (b : Bld B w0 Γ1 m1 own base Γk mk) (e : Kd) (t : Nat) :
    ∃ Γk', Bld B w0 Γ1 m1 own (base + 1) Γk' { mk with row := upd mk.row base (some ⟨e, [], t, .own⟩) } ∧ Ext B Γk Γk' ∧ RepV Γk' (.row base e 0) (.slice none 0 0) := by
  have hn := b.fresh base (Nat.le_refl _)
  have ho : ∃ cs, Γk.w.ownsRow B t e.size (.slice none 0 0) (List.length (α := e.T) []) cs ∧ RepR Γk.w Γk.R e [] cs := by
    refine ⟨[], ?_, fun i x hx => by simp at hx⟩
    exact ⟨by simp, .inl ⟨rfl, by simp⟩⟩
  obtain ⟨M', E⟩ := b.rel.addRow hn (a := ⟨e, [], t, .own⟩) (v := .slice none 0 0) rfl ho (fun g hg => by cases hg)
  refine ⟨_, ⟨M', b.w, b.R, b.μ, fun i v hi => ?_, fun i hi => new_updRow (b.fresh i (by omega)) (by omega)⟩, E, ?_⟩
  · have hi' : upd Γk.ν base (some (.slice none 0 0)) i = some v := hi
    by_cases e' : i = base
    · subst e'
      rw [upd_same] at hi'
      injection hi' with hi'
      subst hi'
      exact .inl rfl
    · rw [upd_other _ _ e'] at hi'
      exact b.ν i v hi'
  · simp only [RepV]
    exact ⟨upd_same _ _ _, by simp⟩
include M1
theorem Bld.row {own : List Nat} {base : Nat} {Γk : Gh} {mk : Mem} (b : Bld B w0 Γ1 m1 own base Γk mk) {id : Nat} {e : Kd} {xs : List e.T} {t : Nat} (hr : m1.row id = some ⟨e, xs, t, .own⟩) {v : Value} (hν : Γ1.ν id = some v) (hid : id ∉ own) :
    ∃ Γk', Bld B w0 Γ1 m1 (id :: own) (base + 1) Γk' { mk with row := upd mk.row base (some ⟨e, xs, t, .own⟩) } ∧ Ext B Γk Γk' ∧ RepV Γk' (.row base e (lenL xs)) v := by
  have hn := b.fresh base (Nat.le_refl _)
  have hd : (⟨e, xs, t, .own⟩ : RowA).st ≠ .dead := fun h => by cases h
  have hl : m1.live id := ⟨_, hr, hd⟩
  have hrr := M1.rowAt hν hr hd
  have ho : ∃ cs, Γk.w.ownsRow B t e.size v (List.length (α := e.T) xs) cs ∧ RepR Γk.w Γk.R e xs cs := by
    rw [b.w, b.R]
    exact hrr.own
  have hF : ∀ g, v.ownBlock = some g → Free Γk mk g := by
    intro g hg
    refine ⟨?_, fun i hi => ?_, fun i u hu _ hgu => ?_⟩
    · rw [b.R]
      rcases hrr.fix g hg with ⟨h, _⟩ | ⟨_, h⟩
      · cases h
      · exact h
    · obtain ⟨j, _, hj⟩ := b.μ i g hi
      exact M1.rb id j v g hν hg hl hj
    · rcases b.ν i u hu with h | ⟨j, hj, hjl, hju⟩
      · rw [h] at hgu; cases hgu
      · have := M1.rr id j v u g hν hju hg hgu hl hjl
        subst this
        exact hid hj
  obtain ⟨M', E⟩ := b.rel.addRow hn (a := ⟨e, xs, t, .own⟩) (v := v) rfl ho hF
  refine ⟨_, ⟨M', b.w, b.R, fun i c hi => ?_, fun i u hi => ?_, fun i hi => new_updRow (b.fresh i (by omega)) (by omega)⟩, E, ?_⟩
  · obtain ⟨j, hj, k⟩ := b.μ i c hi
    exact ⟨j, List.mem_cons_of_mem _ hj, k⟩
  · have hi' : upd Γk.ν base (some v) i = some u := hi
    by_cases e' : i = base
    · subst e'
      rw [upd_same] at hi'
      injection hi' with hi'
      subst hi'
      exact .inr ⟨id, List.mem_cons_self, hl, hν⟩
    · rw [upd_other _ _ e'] at hi'
      exact (b.ν i u hi').imp (fun h => h) fun ⟨j, hj, k⟩ => ⟨j, List.mem_cons_of_mem _ hj, k⟩
  · simp only [RepV]
    refine ⟨upd_same _ _ _, ?_⟩
    obtain ⟨cs, ho, _⟩ := hrr.own
    rcases ho.2 with ⟨rfl, hn⟩ | ⟨g, cap, cur, rfl, _⟩
    · exact .inl ⟨hn, rfl⟩
    · exact .inr ⟨g, cap, rfl⟩

/-- One slice that is the call's own. -/
theorem Bld.rowDec {own : List Nat} {base : Nat} {Γk : Gh} {mk : Mem} (b : Bld B w0 Γ1 m1 own base Γk mk) {m : Mem} {Γ : Gh} {c : AV} (hm : ∀ i, i ∈ rowsC c → m1.row i = m.row i) (hν : Γ.ν = Γ1.ν) {e : Kd} {t : Nat} {xs : List e.T} (h : AM.rowDec m e t c = some xs) {u : Value} (hu : RepV Γ c u) (hid : ∀ i ∈ rowsC c, i ∉ own) :
    ∃ Γk', Bld B w0 Γ1 m1 (rowsC c ++ own) (base + 1) Γk' { mk with row := upd mk.row base (some ⟨e, xs, t, .own⟩) } ∧ Ext B Γk Γk' ∧ RepV Γk' (.row base e (lenL xs)) u := by
  unfold AM.rowDec at h
  split at h
  · injection h with h
    subst h
    simp only [RepV] at hu
    subst hu
    exact b.nil e t
  · rename_i id e0 n0
    split at h
    · rename_i e' ys t' hrow
      obtain ⟨ht, h2⟩ := cond_some h
      have := Nat.eq_of_beq_eq_true ht
      subst this
      obtain ⟨rfl, rfl⟩ := castL_some h2
      simp only [RepV] at hu
      rw [hν] at hu
      exact b.row M1 ((hm id (by simp [rowsC])).trans hrow) hu.1 (hid id (by simp [rowsC]))
    · cases h
  · cases h
end
end Go.Proofs.Ytebokfdiamepcaa.AM
