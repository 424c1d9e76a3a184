/- The abstract machine, 8: the table of types is the program's. -/
import Derived.Test.YtebokfdiamepcaaN
import Derived.Laws.StructEq
import Derived.ChangeKeysEq
set_option linter.unusedVariables false
set_option linter.unusedSimpArgs false
namespace Go.Proofs.Ytebokfdiamepcaa.AM
open Go.RowKit

def fsB : List (Nat × Nat) → List (Nat × Nat) → Bool
  | [], [] => true
  | (a, b) :: r, (c, d) :: q => Nat.beq a c && Nat.beq b d && fsB r q
  | _, _ => false
theorem fsB_eq : ∀ {l r : List (Nat × Nat)}, fsB l r = true → l = r
  | [], [], _ => rfl
  | (a, b) :: l, (c, d) :: r, h => by
    simp only [fsB, Bool.and_eq_true] at h
    rw [Nat.eq_of_beq_eq_true h.1.1, Nat.eq_of_beq_eq_true h.1.2, fsB_eq h.2]
  | [], (_, _) :: _, h => by simp [fsB] at h
  | (_, _) :: _, [], h => by simp [fsB] at h
def descB : Option TypeDesc → TD → Bool
  | some (.int k), .int j => kb k j
  | some .bool, .bool => true
  | some .string, .str => true
  | some (.slice e), .sl e' => Nat.beq e e'
  | some (.array n e), .arr n' e' => Nat.beq n n' && Nat.beq e e'
  | some (.struct fs), .st l => fsB (fs.toList.map fun f => (f.offset, f.type)) l
  | some (.func _ _ _), .fn => true
  | some (.map k v), .mp k' v' => Nat.beq k k' && Nat.beq v v'
  | some (.pointer e), .ptr e' => Nat.beq e e'
  | _, _ => false

/-- What a type's zero says. -/
def zB : AV → Value → Bool
  | .int k n, .int j q => kb k j && decide (n = q)
  | .bool b, .bool c => (b == c)
  | .nil, .slice none 0 0 => true
  | .dead, _ => true
  | _, _ => false
theorem zB_rep {Γ : Gh} : ∀ {a : AV} {v : Value}, zB a v = true → RepV Γ a v := by
  intro a v h
  unfold zB at h
  split at h
  · simp only [Bool.and_eq_true, decide_eq_true_eq] at h
    simp only [RepV, kb_eq h.1, h.2]
  · simp only [RepV, eq_of_beq h]
  · simp only [RepV]
  · simp only [RepV]
  · cases h
def zL : List AV → List Value → Bool
  | [], [] => true
  | a :: r, v :: q => zB a v && zL r q
  | _, _ => false
theorem zL_rep {Γ : Gh} : ∀ {a : List AV} {v : List Value}, zL a v = true → RepL Γ a v
  | [], [], _ => by simp [RepL]
  | a :: r, v :: q, h => by
    simp only [zL, Bool.and_eq_true] at h
    simp only [RepL]
    exact ⟨v, q, rfl, zB_rep h.1, zL_rep h.2⟩
  | [], _ :: _, h => by simp [zL] at h
  | _ :: _, [], h => by simp [zL] at h
def zT : Kd → List Value → Bool
  | .int k, vs => match vs with
    | [.int j n] => kb k j && decide (n = 0)
    | _ => false
  | .bool, vs => match vs with
    | [.bool false] => true
    | _ => false
  | .pair a b, vs => zT a (vs.take a.size) && zT b (vs.drop a.size)
  | .sl _, vs => match vs with
    | [.slice none 0 0] => true
    | _ => false
  | .str, _ => false
theorem zT_rep {w : World} {R : Nat → Prop} : ∀ {κ : Kd} {vs : List Value}, zT κ vs = true → RepT w R κ κ.dflt vs
  | .int k, vs, h => by
    simp only [zT] at h
    split at h
    · rename_i j n
      simp only [Bool.and_eq_true, decide_eq_true_eq] at h
      obtain ⟨h1, rfl⟩ := h
      simp only [RepT, Kd.dflt, kb_eq h1]
    · cases h
  | .bool, vs, h => by
    simp only [zT] at h
    split at h
    · simp only [RepT, Kd.dflt]
    · cases h
  | .pair a b, vs, h => by
    have h' : zT a (vs.take a.size) = true ∧ zT b (vs.drop a.size) = true := by
      simpa [zT] using h
    simp only [RepT, Kd.dflt]
    exact ⟨_, _, (List.take_append_drop a.size vs).symm, zT_rep h'.1, zT_rep h'.2⟩
  | .sl e, vs, h => by
    simp only [zT] at h
    split at h
    · simp only [RepT, Kd.dflt, RepS]
      exact ⟨none, 0, rfl, Nat.zero_le _, .inl trivial⟩
    · cases h
  | .str, _, h => by simp [zT] at h

/-! ### '==' of structs and arrays of numbers and bools -/
def leafs (P : Program) : Nat → TypeId → Option (List Kd)
  | 0, _ => none
  | d + 1, t => match P.underlying t with
    | some (.int k) => cond (Nat.beq (P.cellsOf t) 1) (some [.int k]) none
    | some .bool => cond (Nat.beq (P.cellsOf t) 1) (some [.bool]) none
    | some (.struct fs) => cond (P.stoodInHeld t) none (leafsF (leafs P d) 0 fs.toList)
    | some (.array n e) => match leafs P d e with
      | some ks => cond (Nat.beq (P.cellsOf e) ks.length && (P.info? e).isSome) (some (List.replicate n ks).flatten) none
      | none => none
    | _ => none
where leafsF (f : TypeId → Option (List Kd)) : Nat → List Field → Option (List Kd)
  | _, [] => some []
  | o, g :: gs => match f g.type, (P.info? g.type).isSome, Nat.beq g.offset o, g.name == "_" with
    | some ks, true, true, false => cond (Nat.beq (P.cellsOf g.type) ks.length && Nat.blt 0 ks.length) (match leafsF f (o + ks.length) gs with
      | some r => some (ks ++ r)
      | none => none) none
    | _, _, _, _ => none

def leafM : Kd → Value → Bool
  | .int k, .int j _ => kb k j
  | .bool, .bool _ => true
  | _, _ => false
def leafsM : List Kd → List Value → Bool
  | [], [] => true
  | k :: ks, v :: vs => leafM k v && leafsM ks vs
  | _, _ => false
def eq1 : Value → Value → Bool
  | .int _ a, .int _ b => a == b
  | .bool a, .bool b => a == b
  | _, _ => false
def eqC : List Value → List Value → Bool
  | v :: vs, u :: us => eq1 v u && eqC vs us
  | _, _ => true
theorem leafsM_len : ∀ {ks : List Kd} {vs : List Value}, leafsM ks vs = true → vs.length = ks.length
  | [], [], _ => rfl
  | k :: ks, v :: vs, h => by
    simp only [leafsM, Bool.and_eq_true] at h
    simp [leafsM_len h.2]
  | [], _ :: _, h => by simp [leafsM] at h
  | _ :: _, [], h => by simp [leafsM] at h
theorem leafsM_app : ∀ {ks qs : List Kd} {vs : List Value}, leafsM (ks ++ qs) vs = true → leafsM ks (vs.take ks.length) = true ∧ leafsM qs (vs.drop ks.length) = true
  | [], qs, vs, h => by simpa [leafsM] using h
  | k :: ks, qs, v :: vs, h => by
    simp only [List.cons_append, leafsM, Bool.and_eq_true] at h
    have := leafsM_app h.2
    simp only [List.length_cons, List.take_succ_cons, List.drop_succ_cons, leafsM, Bool.and_eq_true]
    exact ⟨⟨h.1, this.1⟩, this.2⟩
  | k :: ks, qs, [], h => by simp [leafsM] at h
theorem eqC_app : ∀ {a b c d : List Value}, a.length = c.length → eqC (a ++ b) (c ++ d) = (eqC a c && eqC b d)
  | [], b, [], d, _ => by simp [eqC]
  | v :: a, b, u :: c, d, h => by
    simp only [List.cons_append, eqC, eqC_app (a := a) (c := c) (by simpa using h), Bool.and_assoc]
  | [], _, _ :: _, _, h => by simp at h
  | _ :: _, _, [], _, h => by simp at h
theorem eqC_nil {a b : List Value} (h : a = [] ∨ b = []) : eqC a b = true := by
  rcases h with rfl | rfl
  · simp [eqC]
  · cases a <;> simp [eqC]

def isAggB (P : Program) (t : TypeId) : Bool := match P.underlying t with
  | some (.struct _) => true
  | some (.array _ _) => true
  | _ => false
/-- A value of a type out of its cells. -/
def mkVal (P : Program) (t : TypeId) (cs : List Value) : Value := if isAggB P t then .agg cs.toArray else cs.headD undef

theorem run_isAgg {P : Program} {t : TypeId} {d : TypeDesc} (h : P.underlying t = some d) (w : World) : (isAgg t).run P w = .ok (isAggB P t) w := by
  unfold isAgg isAggB
  simp only [Sem.run_bind, run_underlying h, Result.andThen_ok, h]
  cases d <;> rfl
theorem run_sizeOf {P : Program} {t : TypeId} {i : TypeInfo} (h : P.info? t = some i) (w : World) : (sizeOf t).run P w = .ok i.size w := by
  simp [sizeOf, typeInfo, h]
theorem cellsOf_eq {P : Program} {t : TypeId} {i : TypeInfo} (h : P.info? t = some i) : P.cellsOf t = i.size := by simp [Program.cellsOf, h]
/-- A part of an aggregate. -/
theorem run_part_val {P : Program} {t : TypeId} {d : TypeDesc} {i : TypeInfo} (hu : P.underlying t = some d) (hi : P.info? t = some i) (cs : List Value) (off : Nat) (hl : off + i.size ≤ cs.length) (h1 : isAggB P t = false → i.size = 1) (w : World) :
    (part t cs.toArray off).run P w = .ok (mkVal P t ((cs.drop off).take i.size)) w := by
  unfold part mkVal
  simp only [Sem.run_bind, run_isAgg hu, Result.andThen_ok]
  cases ha : isAggB P t with
  | true =>
    simp only [if_true, Sem.run_bind, run_sizeOf hi, Result.andThen_ok]
    simp [List.drop_take]
  | false =>
    have h1' := h1 ha
    have hlt : off < cs.length := by omega
    simp only [Bool.false_eq_true, if_false, h1']
    simp [hlt, List.head?_take, List.head?_drop, List.headD_eq_head?_getD]

theorem leafs_scalar {P : Program} {d : Nat} {t : TypeId} {ks : List Kd} (h : leafs P d t = some ks) : (isAggB P t = false → ks.length = 1) ∧ ∃ u, P.underlying t = some u := by
  cases d with
  | zero => simp [leafs] at h
  | succ d =>
    simp only [leafs] at h
    unfold isAggB
    split at h
    · rename_i k hu
      cases hb : Nat.beq (P.cellsOf t) 1 <;> simp [hb] at h
      subst h
      exact ⟨fun _ => rfl, _, hu⟩
    · rename_i hu
      cases hb : Nat.beq (P.cellsOf t) 1 <;> simp [hb] at h
      subst h
      exact ⟨fun _ => rfl, _, hu⟩
    · rename_i fs hu
      rw [hu]
      exact ⟨fun hf => by simp at hf, _, rfl⟩
    · rename_i n e hu
      rw [hu]
      exact ⟨fun hf => by simp at hf, _, rfl⟩
    · cases h

theorem eq_leafs {P : Program} (w : World) : ∀ (d : Nat) (t : TypeId) (ks : List Kd), leafs P d t = some ks → ∀ (cs ds : List Value), leafsM ks cs = true → leafsM ks ds = true → ∀ d', d ≤ d' →
    (Op.equalIn d' t (mkVal P t cs) (mkVal P t ds)).run P w = .ok (eqC cs ds) w := by
  intro d
  induction d with
  | zero => intro t ks h; simp [leafs] at h
  | succ d ih =>
    intro t ks h cs ds hc hd d' hd'
    obtain ⟨e', rfl⟩ : ∃ e', d' = e' + 1 := ⟨d' - 1, by omega⟩
    simp only [leafs] at h
    split at h
    · rename_i k hu
      cases hb : Nat.beq (P.cellsOf t) 1 <;> simp [hb] at h
      subst h
      obtain ⟨v, rfl⟩ : ∃ v, cs = [v] := List.length_eq_one_iff.1 (leafsM_len hc)
      obtain ⟨u, rfl⟩ : ∃ v, ds = [v] := List.length_eq_one_iff.1 (leafsM_len hd)
      have ha : isAggB P t = false := by simp [isAggB, hu]
      cases v <;> simp [leafsM, leafM] at hc
      cases u <;> simp [leafsM, leafM] at hd
      rw [← kb_eq hc, ← kb_eq hd]
      simp only [mkVal, ha, Bool.false_eq_true, if_false, List.headD_cons, eqC, eq1, Bool.and_true]
      exact run_equalIn_int w e' t _ _ _ _ hu
    · rename_i hu
      cases hb : Nat.beq (P.cellsOf t) 1 <;> simp [hb] at h
      subst h
      obtain ⟨v, rfl⟩ : ∃ v, cs = [v] := List.length_eq_one_iff.1 (leafsM_len hc)
      obtain ⟨u, rfl⟩ : ∃ v, ds = [v] := List.length_eq_one_iff.1 (leafsM_len hd)
      have ha : isAggB P t = false := by simp [isAggB, hu]
      cases v <;> simp [leafsM, leafM] at hc
      cases u <;> simp [leafsM, leafM] at hd
      simp only [mkVal, ha, Bool.false_eq_true, if_false, List.headD_cons, eqC, eq1, Bool.and_true]
      exact run_equalIn_bool' w e' t _ _ hu
    · rename_i fs hu
      cases hs : P.stoodInHeld t <;> simp [hs] at h
      have ha : isAggB P t = true := by simp [isAggB, hu]
      simp only [mkVal, ha, if_true]
      have hf : P.fieldsOf t = fs := by simp [Program.fieldsOf, hu]
      rw [run_equalIn_struct (P := P) w e' t _ _ (by rw [hf]; exact hu) hs, hf]
      have key : ∀ (gs : List Field) (o : Nat) (qs : List Kd), leafs.leafsF P (leafs P d) o gs = some qs → leafsM qs (cs.drop o) = true → leafsM qs (ds.drop o) = true →
          (Op.eqFields e' cs.toArray ds.toArray gs).run P w = .ok (eqC (cs.drop o) (ds.drop o)) w := by
        intro gs
        induction gs with
        | nil =>
          intro o qs hq h1 h2
          simp only [leafs.leafsF, Option.some.injEq] at hq
          subst hq
          have h1' : cs.drop o = [] := List.eq_nil_of_length_eq_zero (leafsM_len h1)
          rw [h1', eqC_nil (.inl rfl)]
          simp [Op.eqFields]
        | cons g gs ihg =>
          intro o qs hq h1 h2
          simp only [leafs.leafsF] at hq
          split at hq
          · rename_i ks' hl hsome hoff hname
            cases hsz' : Nat.beq (P.cellsOf g.type) ks'.length && Nat.blt 0 ks'.length <;> simp only [hsz', cond] at hq
            · cases hq
            have hsz := (Bool.and_eq_true _ _ ▸ hsz').1
            have hpos : 0 < ks'.length := by have := (Bool.and_eq_true _ _ ▸ hsz').2; simp only [Nat.blt, Nat.ble_eq] at this; omega
            split at hq
            · rename_i r hr
              simp only [Option.some.injEq] at hq
              subst hq
              obtain ⟨i, hi⟩ := Option.isSome_iff_exists.1 hsome
              have hisz : i.size = ks'.length := by rw [← cellsOf_eq hi]; exact Nat.eq_of_beq_eq_true hsz
              have hoff' : g.offset = o := Nat.eq_of_beq_eq_true hoff
              obtain ⟨hsc, u, hu'⟩ := leafs_scalar hl
              have hlen1 := leafsM_len h1
              have hlen2 := leafsM_len h2
              rw [List.length_append, List.length_drop] at hlen1 hlen2
              have m1 := leafsM_app h1
              have m2 := leafsM_app h2
              rw [List.drop_drop] at m1 m2
              have p1 := run_part_val hu' hi cs o (by omega) (fun hf => by rw [hisz]; exact hsc hf) w
              have p2 := run_part_val hu' hi ds o (by omega) (fun hf => by rw [hisz]; exact hsc hf) w
              rw [hisz] at p1 p2
              have he := ih g.type ks' hl _ _ m1.1 m2.1 e' (by omega)
              have hrest := ihg (o + ks'.length) r hr m1.2 m2.2
              have hn' : g.name ≠ "_" := by simpa using hname
              rw [Op.eqFields]
              simp only [if_pos hn', Sem.run_bind, hoff', p1, p2, he, Result.andThen_ok]
              have hsplit : eqC (cs.drop o) (ds.drop o) = (eqC ((cs.drop o).take ks'.length) ((ds.drop o).take ks'.length) && eqC (cs.drop (o + ks'.length)) (ds.drop (o + ks'.length))) := by
                rw [← eqC_app (by rw [List.length_take, List.length_take, List.length_drop, List.length_drop]; omega)]
                rw [← List.drop_drop, ← List.drop_drop, List.take_append_drop, List.take_append_drop]
              rw [hsplit]
              cases eqC ((cs.drop o).take ks'.length) ((ds.drop o).take ks'.length)
              · simp
              · simpa using hrest
            · cases hq
          · cases hq
      simpa using key fs.toList 0 ks h (by simpa using hc) (by simpa using hd)
    · rename_i n e hu
      split at h
      · rename_i ks' hl
        cases hb : Nat.beq (P.cellsOf e) ks'.length && (P.info? e).isSome <;> simp [hb] at h
        subst h
        have hb' : Nat.beq (P.cellsOf e) ks'.length = true ∧ (P.info? e).isSome = true := by simpa using hb
        obtain ⟨i, hi⟩ := Option.isSome_iff_exists.1 hb'.2
        have hisz : i.size = ks'.length := by rw [← cellsOf_eq hi]; exact Nat.eq_of_beq_eq_true hb'.1
        obtain ⟨hsc, u, hu'⟩ := leafs_scalar hl
        have ha : isAggB P t = true := by simp [isAggB, hu]
        simp only [mkVal, ha, if_true]
        rw [run_equalIn_array w e' cs.toArray ds.toArray hu hi, cellsOf_eq hi, hisz]
        have key : ∀ (q o : Nat), leafsM (List.replicate q ks').flatten (cs.drop (o * ks'.length)) = true → leafsM (List.replicate q ks').flatten (ds.drop (o * ks'.length)) = true →
            (Op.eqItems e' e ks'.length cs.toArray ds.toArray ((List.range q).map (· + o))).run P w = .ok (eqC (cs.drop (o * ks'.length)) (ds.drop (o * ks'.length))) w := by
          intro q
          induction q with
          | zero =>
            intro o h1 h2
            have h1' : cs.drop (o * ks'.length) = [] := List.eq_nil_of_length_eq_zero (by simpa using leafsM_len h1)
            rw [h1', eqC_nil (.inl rfl)]
            simp [Op.eqItems]
          | succ q ihq =>
            intro o h1 h2
            rw [List.replicate_succ, List.flatten_cons] at h1 h2
            have hlen1 := leafsM_len h1
            have hlen2 := leafsM_len h2
            rw [List.length_append, List.length_drop] at hlen1 hlen2
            have m1 := leafsM_app h1
            have m2 := leafsM_app h2
            have ho : o * ks'.length + ks'.length = (o + 1) * ks'.length := by rw [Nat.add_mul, Nat.one_mul]
            rw [List.drop_drop, ho] at m1 m2
            have hle1 : o * ks'.length + i.size ≤ cs.length := by
              rcases Nat.eq_zero_or_pos ks'.length with hz | hz
              · rw [hisz, hz]; simp
              · omega
            have hle2 : o * ks'.length + i.size ≤ ds.length := by
              rcases Nat.eq_zero_or_pos ks'.length with hz | hz
              · rw [hisz, hz]; simp
              · omega
            have p1 := run_part_val hu' hi cs (o * ks'.length) hle1 (fun hf => by rw [hisz]; exact hsc hf) w
            have p2 := run_part_val hu' hi ds (o * ks'.length) hle2 (fun hf => by rw [hisz]; exact hsc hf) w
            rw [hisz] at p1 p2
            have he := ih e ks' hl _ _ m1.1 m2.1 e' (by omega)
            have hrest := ihq (o + 1) m1.2 m2.2
            have hr : (List.range (q + 1)).map (· + o) = o :: (List.range q).map (· + (o + 1)) := by
              rw [List.range_succ_eq_map, List.map_cons, List.map_map, Nat.zero_add]
              congr 1
              apply List.map_congr_left
              intro a _
              simp
              omega
            rw [hr, Op.eqItems]
            simp only [Sem.run_bind, p1, p2, he, Result.andThen_ok]
            have hsplit : eqC (cs.drop (o * ks'.length)) (ds.drop (o * ks'.length)) = (eqC ((cs.drop (o * ks'.length)).take ks'.length) ((ds.drop (o * ks'.length)).take ks'.length) && eqC (cs.drop ((o + 1) * ks'.length)) (ds.drop ((o + 1) * ks'.length))) := by
              rw [← eqC_app (by rw [List.length_take, List.length_take, List.length_drop, List.length_drop]; omega)]
              rw [← ho, ← List.drop_drop, ← List.drop_drop, List.take_append_drop, List.take_append_drop]
            rw [hsplit]
            cases eqC ((cs.drop (o * ks'.length)).take ks'.length) ((ds.drop (o * ks'.length)).take ks'.length)
            · simp
            · simpa using hrest
        have := key n 0 (by simpa using hc) (by simpa using hd)
        simpa using this
      · cases h
    · cases h

/-! ### The table -/
def ksB : List Kd → List Kd → Bool
  | [], [] => true
  | a :: r, b :: q => Kd.beq a b && ksB r q
  | _, _ => false
theorem ksB_eq : ∀ {l r : List Kd}, ksB l r = true → l = r
  | [], [], _ => rfl
  | a :: l, b :: r, h => by
    simp only [ksB, Bool.and_eq_true] at h
    rw [Kd.eq_of_beq h.1, ksB_eq h.2]
  | [], _ :: _, h => by simp [ksB] at h
  | _ :: _, [], h => by simp [ksB] at h
def kdB (i : TI) (z : Value) : Bool := match i.kd with
  | none => true
  | some κ => Nat.beq κ.size i.size && Nat.blt 0 i.bytes && Nat.ble i.bytes 32768 && zT κ z.cells.toList
def eqB' (P : Program) (t : TypeId) (i : TI) : Bool := match i.eq with
  | none => true
  | some ks => isAggB P t && !(P.eqGuardType P.depth t) && (match leafs P 8 t with
    | some qs => ksB qs ks
    | none => false)
/-- A struct's fields have their rows. -/
def fieldsB (P : Program) (t : TypeId) : Bool := match P.underlying t with
  | some (.struct fs) => fs.toList.all fun f => (P.info? f.type).isSome
  | _ => true
def tiB (P : Program) (t : TypeId) (i : TI) : Bool := match P.info? t with
  | none => false
  | some f => match f.zero with
    | none => false
    | some z => Nat.beq f.size i.size && Nat.beq f.bytes i.bytes && zL i.zero z.cells.toList && Nat.beq z.cells.size i.size && kdB i z && descB (P.underlying t) i.d && eqB' P t i && (i.d.agg || Nat.beq i.size 1) && fieldsB P t
structure TiOk (P : Program) (t : TypeId) (i : TI) : Prop where
  info : ∃ f z, P.info? t = some f ∧ f.zero = some z ∧ f.size = i.size ∧ f.bytes = i.bytes ∧ (∀ Γ, RepL Γ i.zero z.cells.toList) ∧ z.cells.size = i.size ∧
    ∀ κ, i.kd = some κ → κ.size = i.size ∧ 0 < i.bytes ∧ i.bytes ≤ 32768 ∧ ∀ w R, RepT w R κ κ.dflt z.cells.toList
  desc : descB (P.underlying t) i.d = true
  eq : ∀ ks, i.eq = some ks → isAggB P t = true ∧ P.eqGuardType P.depth t = false ∧ leafs P 8 t = some ks
  one : i.d.agg = false → i.size = 1
  fields : fieldsB P t = true
theorem tiB_ok {P : Program} {t : TypeId} {i : TI} (h : tiB P t i = true) : TiOk P t i := by
  unfold tiB at h
  split at h
  · cases h
  · rename_i f hf
    split at h
    · cases h
    · rename_i z hz
      simp only [Bool.and_eq_true] at h
      obtain ⟨⟨⟨⟨⟨⟨⟨⟨h1, h2⟩, h3⟩, h4⟩, h5⟩, h6⟩, h7⟩, h8⟩, h9'⟩ := h
      refine ⟨⟨f, z, hf, hz, Nat.eq_of_beq_eq_true h1, Nat.eq_of_beq_eq_true h2, fun Γ => zL_rep h3, Nat.eq_of_beq_eq_true h4, fun κ hκ => ?_⟩, h6, fun ks hks => ?_, fun ha => ?_, h9'⟩
      · unfold kdB at h5
        rw [hκ] at h5
        simp only [Bool.and_eq_true] at h5
        exact ⟨Nat.eq_of_beq_eq_true h5.1.1.1, by have := h5.1.1.2; simp only [Nat.blt, Nat.ble_eq] at this; omega, Nat.le_of_ble_eq_true h5.1.2, fun w R => zT_rep h5.2⟩
      · unfold eqB' at h7
        rw [hks] at h7
        simp only [Bool.and_eq_true, Bool.not_eq_true'] at h7
        obtain ⟨⟨h7, h9⟩, h10⟩ := h7
        split at h10
        · rename_i qs hq
          rw [hq, ksB_eq h10]
          exact ⟨h7, h9, rfl⟩
        · cases h10
      · rw [ha, Bool.false_or] at h8
        exact Nat.eq_of_beq_eq_true h8
def TbOk (P : Program) (tb : Tb) : Prop := ∀ t, tb.at t = noTI ∨ TiOk P t (tb.at t)
def tbB (P : Program) : Tb → Bool
  | [] => true
  | (t, i) :: r => tiB P t i && tbB P r
theorem tbB_ok {P : Program} : ∀ {tb : Tb}, tbB P tb = true → TbOk P tb
  | [], _, t => .inl rfl
  | (u, i) :: r, h, t => by
    simp only [tbB, Bool.and_eq_true] at h
    simp only [Tb.at]
    cases hb : Nat.beq u t with
    | true =>
      have := Nat.eq_of_beq_eq_true hb
      subst this
      exact .inr (tiB_ok h.1)
    | false => exact tbB_ok h.2 t
end Go.Proofs.Ytebokfdiamepcaa.AM
