/- The abstract machine, 1: kinds of data, abstract values, what a value of the model says. -/
import Derived.Below
import Derived.KernelRfl
set_option linter.unusedVariables false
set_option linter.unusedSimpArgs false
namespace Go.Proofs.Ytebokfdiamepcaa.AM
open Go.RowKit

/-! ### Kinds -/
inductive Kd where
  | int (k : IntKind)
  | bool
  | str
  | pair (a b : Kd)
  | sl (e : Kd)

def Kd.T : Kd → Type
  | .int _ => Int
  | .bool => Bool
  | .str => ByteArray
  | .pair a b => a.T × b.T
  | .sl e => List e.T

def Kd.dflt : (κ : Kd) → κ.T
  | .int _ => (0 : Int)
  | .bool => false
  | .str => ByteArray.empty
  | .pair a b => (a.dflt, b.dflt)
  | .sl _ => []

def Kd.size : Kd → Nat
  | .pair a b => a.size + b.size
  | _ => 1

def kb : IntKind → IntKind → Bool
  | .i64, .i64 => true
  | .u64, .u64 => true
  | .i32, .i32 => true
  | .u32, .u32 => true
  | .i16, .i16 => true
  | .u16, .u16 => true
  | .i8, .i8 => true
  | .u8, .u8 => true
  | _, _ => false
theorem kb_eq {a b : IntKind} (h : kb a b = true) : a = b := by cases a <;> cases b <;> first | rfl | (simp [kb] at h)
theorem kb_self (a : IntKind) : kb a a = true := by cases a <;> rfl

def Kd.beq : Kd → Kd → Bool
  | .int j, .int k => kb j k
  | .bool, .bool => true
  | .str, .str => true
  | .pair a b, .pair c d => Kd.beq a c && Kd.beq b d
  | .sl a, .sl b => Kd.beq a b
  | _, _ => false
theorem Kd.eq_of_beq : ∀ {a b : Kd}, Kd.beq a b = true → a = b
  | .int j, .int k, h => by rw [kb_eq (a := j) (b := k) (by simpa [Kd.beq] using h)]
  | .bool, .bool, _ => rfl
  | .str, .str, _ => rfl
  | .pair a b, .pair c d, h => by
    have h' : Kd.beq a c = true ∧ Kd.beq b d = true := by simpa [Kd.beq] using h
    rw [Kd.eq_of_beq h'.1, Kd.eq_of_beq h'.2]
  | .sl a, .sl b, h => by rw [Kd.eq_of_beq (a := a) (b := b) (by simpa [Kd.beq] using h)]
  | .int _, .bool, h => by simp [Kd.beq] at h
  | .int _, .str, h => by simp [Kd.beq] at h
  | .int _, .pair _ _, h => by simp [Kd.beq] at h
  | .int _, .sl _, h => by simp [Kd.beq] at h
  | .bool, .int _, h => by simp [Kd.beq] at h
  | .bool, .str, h => by simp [Kd.beq] at h
  | .bool, .pair _ _, h => by simp [Kd.beq] at h
  | .bool, .sl _, h => by simp [Kd.beq] at h
  | .str, .int _, h => by simp [Kd.beq] at h
  | .str, .bool, h => by simp [Kd.beq] at h
  | .str, .pair _ _, h => by simp [Kd.beq] at h
  | .str, .sl _, h => by simp [Kd.beq] at h
  | .pair _ _, .int _, h => by simp [Kd.beq] at h
  | .pair _ _, .bool, h => by simp [Kd.beq] at h
  | .pair _ _, .str, h => by simp [Kd.beq] at h
  | .pair _ _, .sl _, h => by simp [Kd.beq] at h
  | .sl _, .int _, h => by simp [Kd.beq] at h
  | .sl _, .bool, h => by simp [Kd.beq] at h
  | .sl _, .str, h => by simp [Kd.beq] at h
  | .sl _, .pair _ _, h => by simp [Kd.beq] at h
theorem Kd.beq_self : ∀ a : Kd, Kd.beq a a = true
  | .int j => kb_self j
  | .bool => rfl
  | .str => rfl
  | .pair a b => by simp [Kd.beq, Kd.beq_self a, Kd.beq_self b]
  | .sl a => by simp [Kd.beq, Kd.beq_self a]

/-- A row of one kind, as one of another that is the same. -/
def castL (a b : Kd) (xs : List a.T) : Option (List b.T) :=
  if h : Kd.beq a b = true then some ((Kd.eq_of_beq h) ▸ xs) else none
theorem castL_some {a b : Kd} {xs : List a.T} {ys : List b.T} (h : castL a b xs = some ys) : ∃ e : a = b, ys = e ▸ xs := by
  unfold castL at h
  split at h
  · rename_i hb
    exact ⟨Kd.eq_of_beq hb, by injection h with h; exact h.symm⟩
  · cases h

/-! ### Abstract values -/
inductive AV where
  | int (k : IntKind) (n : Int)
  | bool (b : Bool)
  | str (s : ByteArray)
  /-- the empty slice, of whatever kind -/
  | nil
  /-- a slice that nobody writes to any more -/
  | sl (e : Kd) (xs : List e.T)
  /-- a slice of the call's own, by its number -/
  | row (id : Nat) (e : Kd) (n : Nat)
  | agg (cs : List AV)
  | tup (vs : List AV)
  /-- an address in a variable of the call's own -/
  | ptr (id off : Nat)
  /-- an address behind which nobody writes any more -/
  | kptr (cs : List AV)
  /-- the address of (a part of) an element of a slice of the call's own -/
  | elem (id : Nat) (e : Kd) (i : Int) (off : Nat)
  | fn (f : Nat) (fst caps : List AV)
  | mp (id : Nat) (k v : Kd)
  | dead

/-- One cell of data. -/
def AV.pure : AV → Bool
  | .int _ _ => true
  | .bool _ => true
  | .str _ => true
  | .nil => true
  | .sl _ _ => true
  | .dead => true
  | _ => false

/-- The cells of a datum. -/
def Kd.cells : (κ : Kd) → κ.T → List AV
  | .int k, x => [.int k x]
  | .bool, x => [.bool x]
  | .str, x => [.str x]
  | .pair a b, x => a.cells x.1 ++ b.cells x.2
  | .sl e, x => [.sl e x]

/-- A datum as a value. -/
def Kd.av : (κ : Kd) → κ.T → AV
  | .int k, x => .int k x
  | .bool, x => .bool x
  | .str, x => .str x
  | .pair a b, x => .agg (Kd.cells (.pair a b) x)
  | .sl e, x => .sl e x

/-- A datum out of cells; what is left. -/
def Kd.dec : (κ : Kd) → List AV → Option (κ.T × List AV)
  | .int k, .int j n :: r => if kb j k = true then some (n, r) else none
  | .bool, .bool b :: r => some (b, r)
  | .str, .str s :: r => some (s, r)
  | .pair a b, cs => match Kd.dec a cs with
    | some (x, r) => match Kd.dec b r with
      | some (y, r') => some ((x, y), r')
      | none => none
    | none => none
  | .sl _, .nil :: r => some ([], r)
  | .sl e, .sl e' xs :: r => match castL e' e xs with
    | some ys => some (ys, r)
    | none => none
  | _, _ => none

/-- The cells of a value. -/
def AV.cells : AV → List AV
  | .agg cs => cs
  | v => [v]

/-! ### What a datum's cells say in a world, R the blocks that nobody writes any more -/
def RepS {α : Type} (w : World) (R : Nat → Prop) (size : Nat) (P : α → List Value → Prop) (xs : List α) (A : Option Addr) : Prop :=
  xs = [] ∨ ∃ ad : Addr, A = some ad ∧ R ad.block ∧ ∀ (i : Nat) (x : α), xs[i]? = some x → ∃ us, P x us ∧ ∀ (j : Nat) (u : Value), us[j]? = some u → w.cell? (ad.add (i * size + j)) = some u
def RepT (w : World) (R : Nat → Prop) : (κ : Kd) → κ.T → List Value → Prop
  | .int k, x, vs => vs = [.int k x]
  | .bool, x, vs => vs = [.bool x]
  | .str, x, vs => vs = [.string x]
  | .pair a b, x, vs => ∃ v1 v2, vs = v1 ++ v2 ∧ RepT w R a x.1 v1 ∧ RepT w R b x.2 v2
  | .sl e, xs, vs => ∃ A c, vs = [.slice A (List.length (α := e.T) xs) c] ∧ List.length (α := e.T) xs ≤ c ∧ RepS (α := e.T) w R e.size (RepT w R e) xs A

theorem RepT.len {w : World} {R : Nat → Prop} : ∀ {κ : Kd} {x : κ.T} {vs : List Value}, RepT w R κ x vs → vs.length = κ.size
  | .int _, _, _, h => by simp only [RepT] at h; rw [h]; rfl
  | .bool, _, _, h => by simp only [RepT] at h; rw [h]; rfl
  | .str, _, _, h => by simp only [RepT] at h; rw [h]; rfl
  | .pair a b, _, _, h => by
    simp only [RepT] at h
    obtain ⟨v1, v2, rfl, h1, h2⟩ := h
    rw [List.length_append, h1.len, h2.len]; rfl
  | .sl _, _, _, h => by simp only [RepT] at h; obtain ⟨A, c, rfl, _⟩ := h; rfl

theorem RepT.one {w : World} {R : Nat → Prop} : ∀ {κ : Kd} {x : κ.T} {vs : List Value}, RepT w R κ x vs → ∀ u ∈ vs, u.oneCell' = true
  | .int _, _, _, h => by simp only [RepT] at h; rw [h]; simp [Value.oneCell']
  | .bool, _, _, h => by simp only [RepT] at h; rw [h]; simp [Value.oneCell']
  | .str, _, _, h => by simp only [RepT] at h; rw [h]; simp [Value.oneCell']
  | .pair a b, _, _, h => by
    simp only [RepT] at h
    obtain ⟨v1, v2, rfl, h1, h2⟩ := h
    intro u hu
    rcases List.mem_append.1 hu with hu | hu
    · exact h1.one u hu
    · exact h2.one u hu
  | .sl _, _, _, h => by simp only [RepT] at h; obtain ⟨A, c, rfl, _⟩ := h; simp [Value.oneCell']

theorem add_block (a : Addr) (n : Nat) : (a.add n).block = a.block := by unfold Addr.add; split <;> rfl
theorem add_add (a : Addr) (m n : Nat) : (a.add m).add n = a.add (m + n) := by
  unfold Addr.add
  by_cases h1 : m = 0 <;> by_cases h2 : n = 0 <;> simp [h1, h2, Nat.add_assoc]
theorem add_plain (g o j : Nat) : (⟨g, o, none⟩ : Addr).add j = ⟨g, o + j, none⟩ := by unfold Addr.add; split <;> simp_all

theorem RepT.mono {w w' : World} {R R' : Nat → Prop} (hw : ∀ b, R b → w'.heap[b]? = w.heap[b]?) (hR : ∀ b, R b → R' b) :
    ∀ {κ : Kd} {x : κ.T} {vs : List Value}, RepT w R κ x vs → RepT w' R' κ x vs
  | .int _, _, _, h => by simpa only [RepT] using h
  | .bool, _, _, h => by simpa only [RepT] using h
  | .str, _, _, h => by simpa only [RepT] using h
  | .pair a b, _, _, h => by
    simp only [RepT] at h ⊢
    obtain ⟨v1, v2, rfl, h1, h2⟩ := h
    exact ⟨v1, v2, rfl, h1.mono hw hR, h2.mono hw hR⟩
  | .sl e, _, _, h => by
    simp only [RepT] at h ⊢
    obtain ⟨A, c, rfl, hc, h⟩ := h
    refine ⟨A, c, rfl, hc, ?_⟩
    rcases h with h | ⟨ad, rfl, hr, h⟩
    · exact .inl h
    · refine .inr ⟨ad, rfl, hR _ hr, fun i x hx => ?_⟩
      obtain ⟨us, hu, hcell⟩ := h i x hx
      refine ⟨us, RepT.mono hw hR hu, fun j u hj => ?_⟩
      rw [World.cell?_of_block (w := w) (by rw [add_block]; exact hw _ hr)]
      exact hcell j u hj

/-- The ghosts: the world; the blocks that nobody writes; where the own variables, rows and maps lie. -/
structure Gh where
  w : World
  R : Nat → Prop
  μ : Nat → Option Nat
  ν : Nat → Option Value
  η : Nat → Option Nat

mutual
def RepV (Γ : Gh) : AV → Value → Prop
  | .int k n, v => v = .int k n
  | .bool b, v => v = .bool b
  | .str s, v => v = .string s
  | .nil, v => v = .slice none 0 0
  | .sl e xs, v => RepT Γ.w Γ.R (.sl e) xs [v]
  | .row id _ n, v => Γ.ν id = some v ∧ ((n = 0 ∧ v = .slice none 0 0) ∨ ∃ g c, v = .slice (some ⟨g, 0, none⟩) n c)
  | .agg cs, v => ∃ vs : List Value, v = .agg vs.toArray ∧ RepL Γ cs vs
  | .tup cs, v => ∃ vs : List Value, v = .tuple vs.toArray ∧ RepL Γ cs vs
  | .ptr id off, v => ∃ b, Γ.μ id = some b ∧ v = .pointer (some ⟨b, off, none⟩)
  | .kptr cs, v => ∃ (ad : Addr) (us : List Value), v = .pointer (some ad) ∧ Γ.R ad.block ∧ cs.all AV.pure = true ∧ RepL Γ cs us ∧ ∀ j u, us[j]? = some u → Γ.w.cell? (ad.add j) = some u
  | .elem id e i off, v => ∃ g n c, Γ.ν id = some (.slice (some ⟨g, 0, none⟩) n c) ∧ i.toNat < n ∧ v = .pointer (some ⟨g, i.toNat * e.size + off, none⟩)
  | .fn f fst caps, v => ∃ us vs : List Value, v = .func (.func f) us.toArray vs.toArray ∧ RepL Γ fst us ∧ RepL Γ caps vs
  | .mp id _ _, v => ∃ b, Γ.η id = some b ∧ v = .map (some b)
  | .dead, _ => True
def RepL (Γ : Gh) : List AV → List Value → Prop
  | [], vs => vs = []
  | c :: cs, vs => ∃ v vs', vs = v :: vs' ∧ RepV Γ c v ∧ RepL Γ cs vs'
end

/-- One state of the ghosts and a later one. -/
structure Ext (B : Nat) (Γ Γ' : Gh) : Prop where
  R : ∀ b, Γ.R b → Γ'.R b
  heap : ∀ b, Γ.R b → Γ'.w.heap[b]? = Γ.w.heap[b]?
  μ : ∀ i b, Γ.μ i = some b → Γ'.μ i = some b
  ν : ∀ i v, Γ.ν i = some v → Γ'.ν i = some v
  η : ∀ i b, Γ.η i = some b → Γ'.η i = some b
  new : ∀ b, Γ'.R b → Γ.R b ∨ B ≤ b
theorem Ext.refl (B : Nat) (Γ : Gh) : Ext B Γ Γ := ⟨fun _ h => h, fun _ _ => rfl, fun _ _ h => h, fun _ _ h => h, fun _ _ h => h, fun _ h => .inl h⟩
theorem Ext.trans {B : Nat} {Γ Γ' Γ'' : Gh} (h : Ext B Γ Γ') (k : Ext B Γ' Γ'') : Ext B Γ Γ'' :=
  ⟨fun b hb => k.R b (h.R b hb), fun b hb => (k.heap b (h.R b hb)).trans (h.heap b hb), fun i b hb => k.μ i b (h.μ i b hb), fun i v hv => k.ν i v (h.ν i v hv), fun i b hb => k.η i b (h.η i b hb),
   fun b hb => by
    rcases k.new b hb with hb | hb
    · exact h.new b hb
    · exact .inr hb⟩

mutual
theorem RepV.ext {B : Nat} {Γ Γ' : Gh} (E : Ext B Γ Γ') : ∀ {a : AV} {v : Value}, RepV Γ a v → RepV Γ' a v
  | .int _ _, _, h => by simpa only [RepV] using h
  | .bool _, _, h => by simpa only [RepV] using h
  | .str _, _, h => by simpa only [RepV] using h
  | .nil, _, h => by simpa only [RepV] using h
  | .sl e xs, _, h => by
    simp only [RepV] at h ⊢
    exact h.mono E.heap E.R
  | .row id e n, _, h => by
    simp only [RepV] at h ⊢
    exact ⟨E.ν _ _ h.1, h.2⟩
  | .agg cs, _, h => by
    simp only [RepV] at h ⊢
    obtain ⟨vs, rfl, h⟩ := h
    exact ⟨vs, rfl, RepL.ext E h⟩
  | .tup cs, _, h => by
    simp only [RepV] at h ⊢
    obtain ⟨vs, rfl, h⟩ := h
    exact ⟨vs, rfl, RepL.ext E h⟩
  | .ptr id off, _, h => by
    simp only [RepV] at h ⊢
    obtain ⟨b, h, rfl⟩ := h
    exact ⟨b, E.μ _ _ h, rfl⟩
  | .kptr cs, _, h => by
    simp only [RepV] at h ⊢
    obtain ⟨ad, us, rfl, hr, hp, hl, hc⟩ := h
    refine ⟨ad, us, rfl, E.R _ hr, hp, RepL.ext E hl, fun j u hj => ?_⟩
    rw [World.cell?_of_block (w := Γ.w) (by rw [add_block]; exact E.heap _ hr)]
    exact hc j u hj
  | .elem id e i off, _, h => by
    simp only [RepV] at h ⊢
    obtain ⟨g, n, c, h, hi, rfl⟩ := h
    exact ⟨g, n, c, E.ν _ _ h, hi, rfl⟩
  | .fn f fst caps, _, h => by
    simp only [RepV] at h ⊢
    obtain ⟨us, vs, rfl, h1, h2⟩ := h
    exact ⟨us, vs, rfl, RepL.ext E h1, RepL.ext E h2⟩
  | .mp id _ _, _, h => by
    simp only [RepV] at h ⊢
    obtain ⟨b, h, rfl⟩ := h
    exact ⟨b, E.η _ _ h, rfl⟩
  | .dead, _, _ => by simp only [RepV]
theorem RepL.ext {B : Nat} {Γ Γ' : Gh} (E : Ext B Γ Γ') : ∀ {a : List AV} {v : List Value}, RepL Γ a v → RepL Γ' a v
  | [], _, h => by simpa only [RepL] using h
  | c :: cs, _, h => by
    simp only [RepL] at h ⊢
    obtain ⟨v, vs, rfl, h1, h2⟩ := h
    exact ⟨v, vs, rfl, RepV.ext E h1, RepL.ext E h2⟩
end
end Go.Proofs.Ytebokfdiamepcaa.AM
