/- The abstract machine, 7: the memory's relation to a world. -/
import Derived.Test.YtebokfdiamepcaaR
set_option linter.unusedVariables false
set_option linter.unusedSimpArgs false
namespace Go.Proofs.Ytebokfdiamepcaa.AM
open Go.RowKit

theorem upd_same {α : Type} (f : Nat → α) (i : Nat) (v : α) : upd f i v i = v := by
  unfold upd
  rw [Nat.beq_refl]
  rfl
theorem beq_ne {i j : Nat} (h : j ≠ i) : Nat.beq j i = false := by
  cases hb : Nat.beq j i with
  | true => exact absurd (Nat.eq_of_beq_eq_true hb) h
  | false => rfl
theorem upd_other {α : Type} (f : Nat → α) {i j : Nat} (v : α) (h : j ≠ i) : upd f i v j = f j := by
  unfold upd
  rw [beq_ne h]
  rfl
theorem upd_eq {α : Type} (f : Nat → α) (i j : Nat) (v : α) : upd f i v j = if j = i then v else f j := by
  by_cases h : j = i
  · subst h
    rw [upd_same, if_pos rfl]
  · rw [upd_other f v h, if_neg h]
theorem upd_comm {α : Type} (f : Nat → α) {i j : Nat} (u v : α) (h : i ≠ j) : upd (upd f i u) j v = upd (upd f j v) i u := by
  funext k
  simp only [upd_eq]
  by_cases h1 : k = j
  · have h2 : ¬ k = i := fun e => h (e.symm.trans h1)
    rw [if_pos h1, if_neg h2, if_pos h1]
  · rw [if_neg h1, if_neg h1]

def RepR (w : World) (R : Nat → Prop) (e : Kd) (xs : List e.T) (cs : List Value) : Prop := ∀ (i : Nat) (x : e.T), xs[i]? = some x → ∃ us, RepT w R e x us ∧ ∀ (j : Nat) (u : Value), us[j]? = some u → cs[i * e.size + j]? = some u
structure BoxRel (B : Nat) (Γ : Gh) (a : BoxA) (b : Nat) : Prop where
  base : B ≤ b
  cells : ∃ us ty, Γ.w.heap[b]? = some (.cells us ty (0, 0)) ∧ RepL Γ a.cs us.toList
  fix : (a.fixed = true ∧ Γ.R b) ∨ (a.fixed = false ∧ ¬ Γ.R b)
structure RowRel (B : Nat) (Γ : Gh) (a : RowA) (v : Value) : Prop where
  own : ∃ cs, Γ.w.ownsRow B a.t a.e.size v a.xs.length cs ∧ RepR Γ.w Γ.R a.e a.xs cs
  fix : ∀ g, v.ownBlock = some g → (a.st = .fixed ∧ Γ.R g) ∨ (a.st = .own ∧ ¬ Γ.R g)
def Mem.live (m : Mem) (i : Nat) : Prop := ∃ a, m.row i = some a ∧ a.st ≠ .dead
structure MemRel (B : Nat) (w0 : World) (Γ : Gh) (m : Mem) : Prop where
  below : Below B w0 Γ.w
  base : B ≤ Γ.w.heap.size
  rlt : ∀ b, Γ.R b → b < Γ.w.heap.size
  box : ∀ i b, Γ.μ i = some b → ∃ a, m.box i = some a ∧ BoxRel B Γ a b
  row : ∀ i v, Γ.ν i = some v → ∃ a, m.row i = some a ∧ (a.st ≠ .dead → RowRel B Γ a v)
  bb : ∀ i j b, Γ.μ i = some b → Γ.μ j = some b → i = j
  rr : ∀ i j u v g, Γ.ν i = some u → Γ.ν j = some v → u.ownBlock = some g → v.ownBlock = some g → m.live i → m.live j → i = j
  rb : ∀ i j u g, Γ.ν i = some u → u.ownBlock = some g → m.live i → Γ.μ j ≠ some g
  map : ∀ i b, Γ.η i = some b → False

theorem ownsRow_heap {w w' : World} {B : Nat} {t : TypeId} {s : Nat} {v : Value} {n : Nat} {cs : List Value} (h : w.ownsRow B t s v n cs) (hh : ∀ g, v.ownBlock = some g → w'.heap[g]? = w.heap[g]?) : w'.ownsRow B t s v n cs := by
  refine ⟨h.1, ?_⟩
  rcases h.2 with hn | ⟨g, cap, cur, rfl, hb, hg, rest⟩
  · exact .inl hn
  · exact .inr ⟨g, cap, cur, rfl, hb, (hh g rfl).trans hg, rest⟩
theorem RepR.mono {w w' : World} {R R' : Nat → Prop} (hw : ∀ b, R b → w'.heap[b]? = w.heap[b]?) (hR : ∀ b, R b → R' b) {e : Kd} {xs : List e.T} {cs : List Value} (h : RepR w R e xs cs) : RepR w' R' e xs cs :=
  fun i x hx => let ⟨us, hu, hc⟩ := h i x hx; ⟨us, hu.mono hw hR, hc⟩
theorem BoxRel.keep {B : Nat} {Γ Γ' : Gh} {a : BoxA} {b : Nat} (E : Ext B Γ Γ') (h : BoxRel B Γ a b) (hb : Γ'.w.heap[b]? = Γ.w.heap[b]?) (hR : Γ'.R b → Γ.R b) : BoxRel B Γ' a b := by
  obtain ⟨h1, ⟨us, ty, hc, hl⟩, h3⟩ := h
  refine ⟨h1, ⟨us, ty, hb.trans hc, hl.ext E⟩, ?_⟩
  rcases h3 with ⟨h3, h4⟩ | ⟨h3, h4⟩
  · exact .inl ⟨h3, E.R _ h4⟩
  · exact .inr ⟨h3, fun hh => h4 (hR hh)⟩
theorem RowRel.keep {B : Nat} {Γ Γ' : Gh} {a : RowA} {v : Value} (E : Ext B Γ Γ') (h : RowRel B Γ a v) (hb : ∀ g, v.ownBlock = some g → Γ'.w.heap[g]? = Γ.w.heap[g]?) (hR : ∀ g, v.ownBlock = some g → Γ'.R g → Γ.R g) : RowRel B Γ' a v := by
  obtain ⟨⟨cs, ho, hr⟩, h3⟩ := h
  refine ⟨⟨cs, ownsRow_heap ho hb, hr.mono E.heap E.R⟩, fun g hg => ?_⟩
  rcases h3 g hg with ⟨h3, h4⟩ | ⟨h3, h4⟩
  · exact .inl ⟨h3, E.R _ h4⟩
  · exact .inr ⟨h3, fun hh => h4 (hR g hg hh)⟩

theorem own_lt {w : World} {B : Nat} {t : TypeId} {s : Nat} {v : Value} {n : Nat} {cs : List Value} (h : w.ownsRow B t s v n cs) {g : Nat} (hg : v.ownBlock = some g) : B ≤ g ∧ g < w.heap.size := h.lt g hg
theorem heap_lt {w : World} {b : Nat} {o : Obj} (h : w.heap[b]? = some o) : b < w.heap.size := (Array.getElem?_eq_some_iff.1 h).1
theorem MemRel.boxlt {B : Nat} {w0 : World} {Γ : Gh} {m : Mem} (M : MemRel B w0 Γ m) {i b : Nat} (h : Γ.μ i = some b) : B ≤ b ∧ b < Γ.w.heap.size := by
  obtain ⟨a, _, hb⟩ := M.box i b h
  obtain ⟨us, ty, hc, _⟩ := hb.cells
  exact ⟨hb.base, heap_lt hc⟩
theorem MemRel.rowlt {B : Nat} {w0 : World} {Γ : Gh} {m : Mem} (M : MemRel B w0 Γ m) {i g : Nat} {v : Value} (h : Γ.ν i = some v) (hl : m.live i) (hg : v.ownBlock = some g) : B ≤ g ∧ g < Γ.w.heap.size := by
  obtain ⟨a, ha, hr⟩ := M.row i v h
  obtain ⟨a', ha', hd⟩ := hl
  rw [ha] at ha'
  injection ha' with ha'
  subst ha'
  obtain ⟨cs, ho, _⟩ := (hr hd).own
  exact own_lt ho hg
theorem MemRel.rowAt {B : Nat} {w0 : World} {Γ : Gh} {m : Mem} (M : MemRel B w0 Γ m) {i : Nat} {v : Value} {a : RowA} (h : Γ.ν i = some v) (ha : m.row i = some a) (hd : a.st ≠ .dead) : RowRel B Γ a v := by
  obtain ⟨a', ha', hr⟩ := M.row i v h
  rw [ha] at ha'
  injection ha' with ha'
  subst ha'
  exact hr hd
theorem MemRel.boxAt {B : Nat} {w0 : World} {Γ : Gh} {m : Mem} (M : MemRel B w0 Γ m) {i b : Nat} {a : BoxA} (h : Γ.μ i = some b) (ha : m.box i = some a) : BoxRel B Γ a b := by
  obtain ⟨a', ha', hr⟩ := M.box i b h
  rw [ha] at ha'
  injection ha' with ha'
  subst ha'
  exact hr
theorem new_box {m : Mem} {i : Nat} (h : m.new i = true) : m.box i = none := by
  unfold Mem.new at h
  split at h
  · assumption
  · cases h
theorem new_row {m : Mem} {i : Nat} (h : m.new i = true) : m.row i = none := by
  unfold Mem.new at h
  split at h
  · assumption
  · cases h
theorem MemRel.newμ {B : Nat} {w0 : World} {Γ : Gh} {m : Mem} (M : MemRel B w0 Γ m) {i : Nat} (h : m.new i = true) : Γ.μ i = none := by
  cases hμ : Γ.μ i with
  | none => rfl
  | some b =>
    obtain ⟨a, ha, _⟩ := M.box i b hμ
    rw [new_box h] at ha
    cases ha
theorem MemRel.newν {B : Nat} {w0 : World} {Γ : Gh} {m : Mem} (M : MemRel B w0 Γ m) {i : Nat} (h : m.new i = true) : Γ.ν i = none := by
  cases hμ : Γ.ν i with
  | none => rfl
  | some b =>
    obtain ⟨a, ha, _⟩ := M.row i b hμ
    rw [new_row h] at ha
    cases ha

/-- Nothing that lives lies in a block. -/
def Free (Γ : Gh) (m : Mem) (g : Nat) : Prop := ¬ Γ.R g ∧ (∀ i, Γ.μ i ≠ some g) ∧ ∀ i v, Γ.ν i = some v → m.live i → v.ownBlock ≠ some g
theorem MemRel.free_new {B : Nat} {w0 : World} {Γ : Gh} {m : Mem} (M : MemRel B w0 Γ m) {g : Nat} (h : Γ.w.heap.size ≤ g) : Free Γ m g :=
  ⟨fun hr => by have := M.rlt g hr; omega, fun i hi => by have := (M.boxlt hi).2; omega, fun i v hv hl hg => by have := (M.rowlt hv hl hg).2; omega⟩

/-- The world goes on; what is written lies where nothing lives. -/
theorem MemRel.write {B : Nat} {w0 : World} {Γ : Gh} {m : Mem} (M : MemRel B w0 Γ m) {w' : World} {row : Option Nat} (hg : Γ.w.grownBy w' row) (hf : ∀ g, row = some g → B ≤ g ∧ Free Γ m g) :
    MemRel B w0 { Γ with w := w' } m ∧ Ext B Γ { Γ with w := w' } := by
  have hR : ∀ b, Γ.R b → w'.heap[b]? = Γ.w.heap[b]? := fun b hb => hg.block b (M.rlt b hb) fun e => (hf b e.symm).2.1 hb
  have E : Ext B Γ { Γ with w := w' } := ⟨fun _ h => h, hR, fun _ _ h => h, fun _ _ h => h, fun _ _ h => h, fun _ h => .inl h⟩
  refine ⟨⟨M.below.grown hg M.base fun k hk => (hf k hk).1, Nat.le_trans M.base hg.size, fun b hb => Nat.lt_of_lt_of_le (M.rlt b hb) hg.size, fun i b hi => ?_, fun i v hv => ?_, M.bb, M.rr, M.rb, M.map⟩, E⟩
  · obtain ⟨a, ha, hb⟩ := M.box i b hi
    exact ⟨a, ha, hb.keep E (hg.block b (M.boxlt hi).2 fun e => (hf b e.symm).2.2.1 i hi) fun h => h⟩
  · obtain ⟨a, ha, hb⟩ := M.row i v hv
    exact ⟨a, ha, fun hd => (hb hd).keep E (fun g hgb => hg.block g (M.rowlt hv ⟨a, ha, hd⟩ hgb).2 fun e => (hf g e.symm).2.2.2 i v hv ⟨a, ha, hd⟩ hgb) fun _ _ h => h⟩
theorem MemRel.grow {B : Nat} {w0 : World} {Γ : Gh} {m : Mem} (M : MemRel B w0 Γ m) {w' : World} (hg : Γ.w.grownBy w' none) :
    MemRel B w0 { Γ with w := w' } m ∧ Ext B Γ { Γ with w := w' } := M.write hg fun _ h => by cases h

/-- A number that was not there is given to a new row. -/
theorem MemRel.addRow {B : Nat} {w0 : World} {Γ : Gh} {m : Mem} (M : MemRel B w0 Γ m) {id : Nat} (hn : m.new id = true) {a : RowA} {v : Value} (ha : a.st = .own) (ho : ∃ cs, Γ.w.ownsRow B a.t a.e.size v a.xs.length cs ∧ RepR Γ.w Γ.R a.e a.xs cs)
    (hf : ∀ g, v.ownBlock = some g → Free Γ m g) :
    MemRel B w0 { Γ with ν := upd Γ.ν id (some v) } { m with row := upd m.row id (some a) } ∧ Ext B Γ { Γ with ν := upd Γ.ν id (some v) } := by
  have hν := M.newν hn
  have hd : a.st ≠ .dead := by rw [ha]; exact fun h => by cases h
  have E : Ext B Γ { Γ with ν := upd Γ.ν id (some v) } := ⟨fun _ h => h, fun _ _ => rfl, fun _ _ h => h, fun i u h => by
    show upd Γ.ν id (some v) i = some u
    by_cases hi : i = id
    · subst hi; rw [hν] at h; cases h
    · rw [upd_other _ _ hi]; exact h, fun _ _ h => h, fun _ h => .inl h⟩
  have live : ∀ i, i ≠ id → ({ m with row := upd m.row id (some a) } : Mem).live i → m.live i := by
    rintro i hi ⟨c, hc, hcd⟩
    refine ⟨c, ?_, hcd⟩
    have hc' : upd m.row id (some a) i = some c := hc
    rwa [upd_other _ _ hi] at hc'
  refine ⟨⟨M.below, M.base, M.rlt, fun i b hi => ?_, fun i u hu => ?_, M.bb, fun i j u u' g hu hu' hg hg' hl hl' => ?_, fun i j u g hu hg hl hj => ?_, M.map⟩, E⟩
  · obtain ⟨c, hc, hb⟩ := M.box i b hi
    exact ⟨c, hc, hb.keep E rfl fun h => h⟩
  · show ∃ c, upd m.row id (some a) i = some c ∧ _
    by_cases hi : i = id
    · subst hi
      have hu' : upd Γ.ν i (some v) i = some u := hu
      rw [upd_same] at hu'
      injection hu' with hu'
      subst hu'
      obtain ⟨cs, h1, h2⟩ := ho
      exact ⟨a, upd_same _ _ _, fun _ => ⟨⟨cs, h1, h2⟩, fun g hg => .inr ⟨ha, (hf g hg).1⟩⟩⟩
    · have hu' : upd Γ.ν id (some v) i = some u := hu
      rw [upd_other _ _ hi] at hu' ⊢
      obtain ⟨c, hc, hb⟩ := M.row i u hu'
      exact ⟨c, hc, fun hcd => (hb hcd).keep E (fun _ _ => rfl) fun _ _ h => h⟩
  · have h1 : upd Γ.ν id (some v) i = some u := hu
    have h2 : upd Γ.ν id (some v) j = some u' := hu'
    by_cases hi : i = id <;> by_cases hj : j = id
    · rw [hi, hj]
    · subst hi
      rw [upd_same] at h1
      injection h1 with h1
      subst h1
      rw [upd_other _ _ hj] at h2
      exact absurd hg' ((hf g hg).2.2 j u' h2 (live j hj hl'))
    · subst hj
      rw [upd_same] at h2
      injection h2 with h2
      subst h2
      rw [upd_other _ _ hi] at h1
      exact absurd hg ((hf g hg').2.2 i u h1 (live i hi hl))
    · rw [upd_other _ _ hi] at h1
      rw [upd_other _ _ hj] at h2
      exact M.rr i j u u' g h1 h2 hg hg' (live i hi hl) (live j hj hl')
  · have h1 : upd Γ.ν id (some v) i = some u := hu
    by_cases hi : i = id
    · subst hi
      rw [upd_same] at h1
      injection h1 with h1
      subst h1
      exact (hf g hg).2.1 j hj
    · rw [upd_other _ _ hi] at h1
      exact M.rb i j u g h1 hg (live i hi hl) hj

/-- A number that was not there is given to a new variable. -/
theorem MemRel.addBox {B : Nat} {w0 : World} {Γ : Gh} {m : Mem} (M : MemRel B w0 Γ m) {id : Nat} (hn : m.new id = true) {cs : List AV} {us : Array Value} (ty : TypeId) (hr : RepL Γ cs us.toList) :
    MemRel B w0 { Γ with w := Γ.w.alloc (.cells us ty), μ := upd Γ.μ id (some Γ.w.heap.size) } { m with box := upd m.box id (some ⟨cs, false⟩) } ∧
      Ext B Γ { Γ with w := Γ.w.alloc (.cells us ty), μ := upd Γ.μ id (some Γ.w.heap.size) } := by
  obtain ⟨M1, E1⟩ := M.grow (World.grownBy_alloc Γ.w (.cells us ty) none)
  have hμ := M.newμ hn
  have hF := M.free_new (Nat.le_refl Γ.w.heap.size)
  have E : Ext B Γ { Γ with w := Γ.w.alloc (.cells us ty), μ := upd Γ.μ id (some Γ.w.heap.size) } := ⟨E1.R, E1.heap, fun i b h => by
    show upd Γ.μ id _ i = some b
    by_cases hi : i = id
    · subst hi; rw [hμ] at h; cases h
    · rw [upd_other _ _ hi]; exact h, E1.ν, E1.η, E1.new⟩
  have E2 : Ext B { Γ with w := Γ.w.alloc (.cells us ty) } { Γ with w := Γ.w.alloc (.cells us ty), μ := upd Γ.μ id (some Γ.w.heap.size) } := ⟨fun _ h => h, fun _ _ => rfl, E.μ, fun _ _ h => h, fun _ _ h => h, fun _ h => .inl h⟩
  refine ⟨⟨M1.below, M1.base, M1.rlt, fun i b hi => ?_, fun i u hu => ?_, fun i j b hi hj => ?_, M1.rr, fun i j u g hu hg hl hj => ?_, M1.map⟩, E⟩
  · have hi' : upd Γ.μ id (some Γ.w.heap.size) i = some b := hi
    show ∃ a, upd m.box id (some ⟨cs, false⟩) i = some a ∧ _
    by_cases h : i = id
    · subst h
      rw [upd_same] at hi'
      injection hi' with hi'
      subst hi'
      exact ⟨_, upd_same _ _ _, M.base, ⟨us, ty, heap_alloc_new _ _, hr.ext E⟩, .inr ⟨rfl, hF.1⟩⟩
    · rw [upd_other _ _ h] at hi' ⊢
      obtain ⟨a, ha, hb⟩ := M1.box i b hi'
      exact ⟨a, ha, hb.keep E2 rfl fun h => h⟩
  · obtain ⟨a, ha, hb⟩ := M1.row i u hu
    exact ⟨a, ha, fun hd => (hb hd).keep E2 (fun _ _ => rfl) fun _ _ h => h⟩
  · have h1 : upd Γ.μ id (some Γ.w.heap.size) i = some b := hi
    have h2 : upd Γ.μ id (some Γ.w.heap.size) j = some b := hj
    by_cases ei : i = id <;> by_cases ej : j = id
    · rw [ei, ej]
    · subst ei
      rw [upd_same] at h1
      injection h1 with h1
      subst h1
      rw [upd_other _ _ ej] at h2
      exact absurd h2 (hF.2.1 j)
    · subst ej
      rw [upd_same] at h2
      injection h2 with h2
      subst h2
      rw [upd_other _ _ ei] at h1
      exact absurd h1 (hF.2.1 i)
    · rw [upd_other _ _ ei] at h1
      rw [upd_other _ _ ej] at h2
      exact M.bb i j b h1 h2
  · have h2 : upd Γ.μ id (some Γ.w.heap.size) j = some g := hj
    by_cases ej : j = id
    · subst ej
      rw [upd_same] at h2
      injection h2 with h2
      subst h2
      exact hF.2.2 i u hu hl hg
    · rw [upd_other _ _ ej] at h2
      exact M.rb i j u g hu hg hl h2

/-- A row dies. -/
theorem MemRel.kill {B : Nat} {w0 : World} {Γ : Gh} {m : Mem} (M : MemRel B w0 Γ m) (id : Nat) : MemRel B w0 Γ (m.kill id) := by
  unfold Mem.kill
  split
  · rename_i e xs t st hrow
    have live : ∀ i, ({ m with row := upd m.row id (some ⟨e, xs, t, .dead⟩) } : Mem).live i → m.live i ∧ i ≠ id := by
      rintro i ⟨a, ha, hd⟩
      have ha' : upd m.row id (some ⟨e, xs, t, .dead⟩) i = some a := ha
      by_cases hi : i = id
      · subst hi
        rw [upd_same] at ha'
        injection ha' with ha'
        subst ha'
        exact absurd rfl hd
      · rw [upd_other _ _ hi] at ha'
        exact ⟨⟨a, ha', hd⟩, hi⟩
    refine ⟨M.below, M.base, M.rlt, M.box, fun i v hv => ?_, M.bb, fun i j u v g hu hv hg hg' hl hl' => M.rr i j u v g hu hv hg hg' (live i hl).1 (live j hl').1, fun i j u g hu hg hl => M.rb i j u g hu hg (live i hl).1, M.map⟩
    show ∃ a, upd m.row id (some ⟨e, xs, t, .dead⟩) i = some a ∧ _
    by_cases hi : i = id
    · subst hi
      exact ⟨_, upd_same _ _ _, fun h => absurd rfl h⟩
    · rw [upd_other _ _ hi]
      exact M.row i v hv
  · exact M
theorem kill_live {m : Mem} {id i : Nat} (h : (m.kill id).live i) : m.live i ∧ i ≠ id := by
  unfold Mem.kill at h
  split at h
  · rename_i e xs t st hrow
    obtain ⟨a, ha, hd⟩ := h
    have ha' : upd m.row id (some ⟨e, xs, t, .dead⟩) i = some a := ha
    by_cases hi : i = id
    · subst hi
      rw [upd_same] at ha'
      injection ha' with ha'
      subst ha'
      exact absurd rfl hd
    · rw [upd_other _ _ hi] at ha'
      exact ⟨⟨a, ha', hd⟩, hi⟩
  · rename_i hrow
    refine ⟨h, fun e => ?_⟩
    subst e
    obtain ⟨a, ha, _⟩ := h
    rw [hrow] at ha
    cases ha

/-- A variable's cells are written. -/
theorem MemRel.setBox {B : Nat} {w0 : World} {Γ : Gh} {m : Mem} (M : MemRel B w0 Γ m) {id b : Nat} (hμ : Γ.μ id = some b) {a : BoxA} (hm : m.box id = some a) (hfx : a.fixed = false) {w' : World} (hg : Γ.w.grownBy w' (some b))
    {cs : List AV} {us : Array Value} {ty : TypeId} (hb : w'.heap[b]? = some (.cells us ty (0, 0))) (hr : RepL Γ cs us.toList) :
    MemRel B w0 { Γ with w := w' } { m with box := upd m.box id (some ⟨cs, false⟩) } ∧ Ext B Γ { Γ with w := w' } := by
  have hbr := M.boxAt hμ hm
  have hnR : ¬ Γ.R b := by
    rcases hbr.fix with ⟨h, _⟩ | ⟨_, h⟩
    · rw [hfx] at h; cases h
    · exact h
  have hR : ∀ c, Γ.R c → w'.heap[c]? = Γ.w.heap[c]? := fun c hc => hg.block c (M.rlt c hc) fun e => hnR (by injection e with e; subst e; exact hc)
  have E : Ext B Γ { Γ with w := w' } := ⟨fun _ h => h, hR, fun _ _ h => h, fun _ _ h => h, fun _ _ h => h, fun _ h => .inl h⟩
  refine ⟨⟨M.below.grown hg M.base fun k hk => by injection hk with hk; subst hk; exact hbr.base, Nat.le_trans M.base hg.size, fun c hc => Nat.lt_of_lt_of_le (M.rlt c hc) hg.size, fun i c hi => ?_, fun i v hv => ?_, M.bb, M.rr, M.rb, M.map⟩, E⟩
  · show ∃ a, upd m.box id (some ⟨cs, false⟩) i = some a ∧ _
    by_cases h : i = id
    · subst h
      obtain rfl : b = c := by have : some b = some c := hμ.symm.trans hi; injection this
      exact ⟨_, upd_same _ _ _, hbr.base, ⟨us, ty, hb, hr.ext E⟩, .inr ⟨rfl, hnR⟩⟩
    · rw [upd_other _ _ h]
      obtain ⟨a', ha', hb'⟩ := M.box i c hi
      exact ⟨a', ha', hb'.keep E (hg.block c (M.boxlt hi).2 fun e => h (M.bb i id c hi (by injection e with e; subst e; exact hμ))) fun h => h⟩
  · obtain ⟨a', ha', hb'⟩ := M.row i v hv
    exact ⟨a', ha', fun hd => (hb' hd).keep E (fun g hgb => hg.block g (M.rowlt hv ⟨a', ha', hd⟩ hgb).2 fun e => M.rb i id v g hv hgb ⟨a', ha', hd⟩ (by injection e with e; subst e; exact hμ)) fun _ _ h => h⟩

/-- A row's cells are written. -/
theorem MemRel.setRow {B : Nat} {w0 : World} {Γ : Gh} {m : Mem} (M : MemRel B w0 Γ m) {id b : Nat} {v : Value} (hν : Γ.ν id = some v) {a : RowA} (hm : m.row id = some a) (hst : a.st = .own) (hvb : v.ownBlock = some b) {w' : World} (hg : Γ.w.grownBy w' (some b))
    {xs : List a.e.T} (ho : ∃ cs, w'.ownsRow B a.t a.e.size v xs.length cs ∧ RepR Γ.w Γ.R a.e xs cs) :
    MemRel B w0 { Γ with w := w' } { m with row := upd m.row id (some ⟨a.e, xs, a.t, .own⟩) } ∧ Ext B Γ { Γ with w := w' } := by
  have hd : a.st ≠ .dead := by rw [hst]; exact fun h => by cases h
  have hlive : m.live id := ⟨a, hm, hd⟩
  have hbr := M.rowAt hν hm hd
  have hnR : ¬ Γ.R b := by
    rcases hbr.fix b hvb with ⟨h, _⟩ | ⟨_, h⟩
    · rw [hst] at h; cases h
    · exact h
  have hR : ∀ c, Γ.R c → w'.heap[c]? = Γ.w.heap[c]? := fun c hc => hg.block c (M.rlt c hc) fun e => hnR (by injection e with e; subst e; exact hc)
  have E : Ext B Γ { Γ with w := w' } := ⟨fun _ h => h, hR, fun _ _ h => h, fun _ _ h => h, fun _ _ h => h, fun _ h => .inl h⟩
  have live : ∀ i, ({ m with row := upd m.row id (some ⟨a.e, xs, a.t, .own⟩) } : Mem).live i → m.live i := by
    rintro i ⟨c, hc, hcd⟩
    by_cases hi : i = id
    · subst hi; exact hlive
    · have hc' : upd m.row id (some ⟨a.e, xs, a.t, .own⟩) i = some c := hc
      rw [upd_other _ _ hi] at hc'
      exact ⟨c, hc', hcd⟩
  refine ⟨⟨M.below.grown hg M.base fun k hk => by injection hk with hk; subst hk; exact (M.rowlt hν hlive hvb).1, Nat.le_trans M.base hg.size, fun c hc => Nat.lt_of_lt_of_le (M.rlt c hc) hg.size, fun i c hi => ?_, fun i u hu => ?_, M.bb,
    fun i j u u' g hu hu' hgu hgu' hl hl' => M.rr i j u u' g hu hu' hgu hgu' (live i hl) (live j hl'), fun i j u g hu hgu hl => M.rb i j u g hu hgu (live i hl), M.map⟩, E⟩
  · obtain ⟨a', ha', hb'⟩ := M.box i c hi
    exact ⟨a', ha', hb'.keep E (hg.block c (M.boxlt hi).2 fun e => M.rb id i v b hν hvb hlive (by injection e with e; subst e; exact hi)) fun h => h⟩
  · show ∃ c, upd m.row id (some ⟨a.e, xs, a.t, .own⟩) i = some c ∧ _
    by_cases hi : i = id
    · subst hi
      obtain rfl : v = u := by have : some v = some u := hν.symm.trans hu; injection this
      obtain ⟨cs, h1, h2⟩ := ho
      exact ⟨_, upd_same _ _ _, fun _ => ⟨⟨cs, h1, h2.mono E.heap E.R⟩, fun g hgv => .inr ⟨rfl, by rw [hvb] at hgv; injection hgv with hgv; subst hgv; exact hnR⟩⟩⟩
    · rw [upd_other _ _ hi]
      obtain ⟨a', ha', hb'⟩ := M.row i u hu
      exact ⟨a', ha', fun hd' => (hb' hd').keep E (fun g hgb => hg.block g (M.rowlt hu ⟨a', ha', hd'⟩ hgb).2 fun e => hi (M.rr i id u v g hu hν hgb (by injection e with e; subst e; exact hvb) ⟨a', ha', hd'⟩ hlive)) fun _ _ h => h⟩

/-- A row is written no more. -/
theorem MemRel.fixOne {B : Nat} {w0 : World} {Γ : Gh} {m : Mem} (M : MemRel B w0 Γ m) {id : Nat} {a : RowA} (hm : m.row id = some a) :
    ∃ R' : Nat → Prop, MemRel B w0 { Γ with R := R' } { m with row := upd m.row id (some (fixRow a)) } ∧ Ext B Γ { Γ with R := R' } ∧ ∀ b, R' b ↔ Γ.R b ∨ (a.st ≠ .dead ∧ ∃ v, Γ.ν id = some v ∧ v.ownBlock = some b) := by
  have hfx : (fixRow a).e = a.e ∧ HEq (fixRow a).xs a.xs ∧ (fixRow a).t = a.t ∧ ((fixRow a).st = .dead ↔ a.st = .dead) ∧ (a.st = .own → (fixRow a).st = .fixed) ∧ (a.st = .fixed → (fixRow a).st = .fixed) := by
    obtain ⟨e, xs, t, st⟩ := a
    cases st <;> simp [fixRow]
  refine ⟨fun b => Γ.R b ∨ (a.st ≠ .dead ∧ ∃ v, Γ.ν id = some v ∧ v.ownBlock = some b), ?_, ?_, fun b => Iff.rfl⟩
  all_goals
    have E : Ext B Γ { Γ with R := fun b => Γ.R b ∨ (a.st ≠ .dead ∧ ∃ v, Γ.ν id = some v ∧ v.ownBlock = some b) } := ⟨fun _ h => .inl h, fun _ _ => rfl, fun _ _ h => h, fun _ _ h => h, fun _ _ h => h, fun b hb => by
      rcases hb with hb | ⟨hd, v, hv, hvb⟩
      · exact .inl hb
      · exact .inr (M.rowlt hv ⟨a, hm, hd⟩ hvb).1⟩
  · have live : ∀ i, ({ m with row := upd m.row id (some (fixRow a)) } : Mem).live i → m.live i := by
      rintro i ⟨c, hc, hcd⟩
      have hc' : upd m.row id (some (fixRow a)) i = some c := hc
      by_cases hi : i = id
      · subst hi
        rw [upd_same] at hc'
        injection hc' with hc'
        subst hc'
        exact ⟨a, hm, fun h => hcd (hfx.2.2.2.1.2 h)⟩
      · rw [upd_other _ _ hi] at hc'
        exact ⟨c, hc', hcd⟩
    refine ⟨M.below, M.base, fun b hb => ?_, fun i b hi => ?_, fun i u hu => ?_, M.bb, fun i j u u' g hu hu' hg hg' hl hl' => M.rr i j u u' g hu hu' hg hg' (live i hl) (live j hl'), fun i j u g hu hg hl => M.rb i j u g hu hg (live i hl), M.map⟩
    · rcases hb with hb | ⟨hd, v, hv, hvb⟩
      · exact M.rlt b hb
      · exact (M.rowlt hv ⟨a, hm, hd⟩ hvb).2
    · obtain ⟨c, hc, hb⟩ := M.box i b hi
      refine ⟨c, hc, hb.keep E rfl fun h => ?_⟩
      rcases h with h | ⟨hd, v, hv, hvb⟩
      · exact h
      · exact absurd hi (M.rb id i v b hv hvb ⟨a, hm, hd⟩)
    · show ∃ c, upd m.row id (some (fixRow a)) i = some c ∧ _
      by_cases hi : i = id
      · subst hi
        refine ⟨_, upd_same _ _ _, fun hd => ?_⟩
        have hd' : a.st ≠ .dead := fun h => hd (hfx.2.2.2.1.2 h)
        have hr := M.rowAt hu hm hd'
        obtain ⟨cs, h1, h2⟩ := hr.own
        have hst : (fixRow a).st = .fixed := by
          cases hs : a.st with
          | own => exact hfx.2.2.2.2.1 hs
          | fixed => exact hfx.2.2.2.2.2 hs
          | dead => exact absurd hs hd'
        refine ⟨⟨cs, ?_, ?_⟩, fun g hg => .inl ⟨hst, .inr ⟨hd', u, hu, hg⟩⟩⟩
        · obtain ⟨e, xs, t, st⟩ := a
          cases st <;> exact h1
        · have h2' := h2.mono E.heap E.R
          obtain ⟨e, xs, t, st⟩ := a
          cases st <;> exact h2'
      · rw [upd_other _ _ hi]
        obtain ⟨c, hc, hb⟩ := M.row i u hu
        refine ⟨c, hc, fun hcd => (hb hcd).keep E (fun _ _ => rfl) fun g hg h => ?_⟩
        rcases h with h | ⟨hd, v, hv, hvb⟩
        · exact h
        · exact absurd (M.rr i id u v g hu hv hg hvb ⟨c, hc, hcd⟩ ⟨a, hm, hd⟩) hi
  · exact E

/-- A variable is written no more. -/
theorem MemRel.fixBox {B : Nat} {w0 : World} {Γ : Gh} {m : Mem} (M : MemRel B w0 Γ m) {id b : Nat} (hμ : Γ.μ id = some b) :
    MemRel B w0 { Γ with R := fun c => Γ.R c ∨ c = b } (AM.fixBox m id) ∧ Ext B Γ { Γ with R := fun c => Γ.R c ∨ c = b } := by
  obtain ⟨a, ha, hb⟩ := M.box id b hμ
  have E : Ext B Γ { Γ with R := fun c => Γ.R c ∨ c = b } := ⟨fun _ h => .inl h, fun _ _ => rfl, fun _ _ h => h, fun _ _ h => h, fun _ _ h => h, fun c hc => by
    rcases hc with hc | rfl
    · exact .inl hc
    · exact .inr hb.base⟩
  refine ⟨?_, E⟩
  unfold AM.fixBox
  rw [ha]
  refine ⟨M.below, M.base, fun c hc => ?_, fun i c hi => ?_, fun i u hu => ?_, M.bb, M.rr, M.rb, M.map⟩
  · rcases hc with hc | rfl
    · exact M.rlt c hc
    · exact (M.boxlt hμ).2
  · show ∃ c', upd m.box id (some ⟨a.cs, true⟩) i = some c' ∧ _
    by_cases h : i = id
    · subst h
      obtain rfl : b = c := by have : some b = some c := hμ.symm.trans hi; injection this
      obtain ⟨us, ty, hc, hl⟩ := hb.cells
      exact ⟨_, upd_same _ _ _, hb.base, ⟨us, ty, hc, hl.ext E⟩, .inl ⟨rfl, .inr rfl⟩⟩
    · rw [upd_other _ _ h]
      obtain ⟨c', hc', hb'⟩ := M.box i c hi
      refine ⟨c', hc', hb'.keep E rfl fun hh => ?_⟩
      rcases hh with hh | rfl
      · exact hh
      · exact absurd (M.bb i id c hi hμ) h
  · obtain ⟨c, hc, hr⟩ := M.row i u hu
    refine ⟨c, hc, fun hd => (hr hd).keep E (fun _ _ => rfl) fun g hg h => ?_⟩
    rcases h with h | rfl
    · exact h
    · exact absurd hμ (M.rb i id u g hu hg ⟨c, hc, hd⟩)
end Go.Proofs.Ytebokfdiamepcaa.AM
