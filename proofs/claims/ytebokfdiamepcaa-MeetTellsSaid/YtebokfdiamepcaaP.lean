/- The abstract machine, 9: operations do in the model what they do in the machine; values, variables. -/
import Derived.Test.YtebokfdiamepcaaT
import Derived.Great.BuildSlice
set_option linter.unusedVariables false
set_option linter.unusedSimpArgs false
namespace Go.Proofs.Ytebokfdiamepcaa.AM
open Go.RowKit

/-- What an operation that tells a value comes to. -/
def OpRes (P : Program) (B : Nat) (w0 : World) (Γ : Gh) (x : Sem Value) (v : AV) (m' : Mem) : Prop :=
  ∃ Γ' u, Ext B Γ Γ' ∧ MemRel B w0 Γ' m' ∧ RepV Γ' v u ∧ x.run P Γ.w = .ok u Γ'.w
theorem OpRes.same {P : Program} {B : Nat} {w0 : World} {Γ : Gh} {m : Mem} (M : MemRel B w0 Γ m) {x : Sem Value} {v : AV} {u : Value} (h : RepV Γ v u) (hr : x.run P Γ.w = .ok u Γ.w) : OpRes P B w0 Γ x v m :=
  ⟨Γ, u, Ext.refl B Γ, M, h, hr⟩
theorem pairK_some {v v' : AV} {m m' : Mem} (h : pairK v m = some (v', m')) : v' = v ∧ m' = m := by
  unfold pairK at h
  injection h with h
  injection h with h1 h2
  exact ⟨h1.symm, h2.symm⟩
theorem cond_some {α : Type} {b : Bool} {x : Option α} {y : α} (h : cond b x none = some y) : b = true ∧ x = some y := by
  cases b
  · cases h
  · exact ⟨rfl, h⟩
theorem gd_some {α : Type} {b : Bool} {x : Option α} {y : α} (h : gd b x = some y) : b = true ∧ x = some y := cond_some h

/-! ### Shapes of what is told -/
theorem scal_one {Γ : Gh} {a : AV} {v : Value} (hs : scal a = true) (h : RepV Γ a v) : v.oneCell' = true ∧ v.cells = #[v] := by
  cases a <;> simp only [scal, Bool.false_eq_true] at hs <;> simp only [RepV] at h
  · subst h; exact ⟨rfl, rfl⟩
  · subst h; exact ⟨rfl, rfl⟩
  · subst h; exact ⟨rfl, rfl⟩
  · subst h; exact ⟨rfl, rfl⟩
  · simp only [RepT] at h
    obtain ⟨A, c, h, _⟩ := h
    obtain rfl := List.cons.inj h |>.1
    exact ⟨rfl, rfl⟩
  · rcases h with ⟨_, ⟨_, rfl⟩ | ⟨g, c, rfl⟩⟩ <;> exact ⟨rfl, rfl⟩
  · obtain ⟨b, _, rfl⟩ := h; exact ⟨rfl, rfl⟩
  · obtain ⟨ad, us, rfl, _⟩ := h; exact ⟨rfl, rfl⟩
  · obtain ⟨g, n, c, _, _, rfl⟩ := h; exact ⟨rfl, rfl⟩
  · obtain ⟨us, vs, rfl, _⟩ := h; exact ⟨rfl, rfl⟩
  · obtain ⟨b, _, rfl⟩ := h; exact ⟨rfl, rfl⟩
theorem all_one {Γ : Gh} : ∀ {cs : List AV} {vs : List Value}, cs.all scal = true → RepL Γ cs vs → ∀ u ∈ vs, u.oneCell' = true
  | [], _, _, h => by simp only [RepL] at h; subst h; simp
  | c :: cs, _, hs, h => by
    simp only [RepL] at h
    obtain ⟨v, vs, rfl, h1, h2⟩ := h
    simp only [List.all_cons, Bool.and_eq_true] at hs
    intro u hu
    rcases List.mem_cons.1 hu with rfl | hu
    · exact (scal_one hs.1 h1).1
    · exact all_one hs.2 h2 u hu
theorem cellsK_rep {Γ : Gh} {x : AV} {v : Value} {cs : List AV} (h : cellsK x = some cs) (hv : RepV Γ x v) : RepL Γ cs v.cells.toList ∧ (∀ u ∈ v.cells.toList, u.oneCell' = true) ∧ cs.all scal = true := by
  unfold cellsK at h
  split at h
  · rename_i ds
    obtain ⟨hs, h⟩ := cond_some h
    injection h with h
    subst h
    simp only [RepV] at hv
    obtain ⟨vs, rfl, hv⟩ := hv
    have : (Value.agg vs.toArray).cells.toList = vs := rfl
    rw [this]
    exact ⟨hv, all_one hs hv, hs⟩
  · obtain ⟨hs, h⟩ := cond_some h
    injection h with h
    subst h
    obtain ⟨h1, h2⟩ := scal_one hs hv
    rw [h2]
    refine ⟨RepL.one.2 ⟨v, rfl, hv⟩, fun u hu => ?_, by simp [hs]⟩
    obtain rfl : u = v := by simpa using hu
    exact h1

theorem at_ok {P : Program} {tb : Tb} (HT : TbOk P tb) {t : Nat} (h : (tb.at t).d.ok = true) : TiOk P t (tb.at t) := by
  rcases HT t with h' | h'
  · rw [h'] at h; cases h
  · exact h'
theorem at_size {P : Program} {tb : Tb} (HT : TbOk P tb) {t : Nat} (h : 0 < (tb.at t).size) : TiOk P t (tb.at t) := by
  rcases HT t with h' | h'
  · rw [h'] at h; exact absurd h (Nat.lt_irrefl 0)
  · exact h'
theorem size_pos : ∀ e : Kd, 0 < e.size
  | .int _ => Nat.one_pos
  | .bool => Nat.one_pos
  | .str => Nat.one_pos
  | .pair a b => Nat.add_pos_left (size_pos a) _
  | .sl _ => Nat.one_pos
theorem at_kd {P : Program} {tb : Tb} (HT : TbOk P tb) {t : Nat} {κ : Kd} (h : (tb.at t).kd = some κ) : TiOk P t (tb.at t) := by
  rcases HT t with h' | h'
  · rw [h'] at h; cases h
  · exact h'

theorem desc_sl {P : Program} {t e : Nat} (h : descB (P.underlying t) (.sl e) = true) : P.underlying t = some (.slice e) := by
  unfold descB at h
  split at h <;> simp_all
theorem desc_arr {P : Program} {t n e : Nat} (h : descB (P.underlying t) (.arr n e) = true) : P.underlying t = some (.array n e) := by
  unfold descB at h
  split at h <;> simp_all
theorem desc_st {P : Program} {t : Nat} {l : List (Nat × Nat)} (h : descB (P.underlying t) (.st l) = true) : ∃ fs, P.underlying t = some (.struct fs) ∧ (fs.toList.map fun f => (f.offset, f.type)) = l := by
  unfold descB at h
  split at h <;> simp_all
  exact fsB_eq h
theorem desc_int {P : Program} {t : Nat} {k : IntKind} (h : descB (P.underlying t) (.int k) = true) : P.underlying t = some (.int k) := by
  unfold descB at h
  split at h <;> simp_all
  exact kb_eq h
theorem desc_bool {P : Program} {t : Nat} (h : descB (P.underlying t) .bool = true) : P.underlying t = some .bool := by
  unfold descB at h
  split at h <;> simp_all
theorem desc_some {P : Program} {t : Nat} {d : TD} (h : descB (P.underlying t) d = true) : ∃ u, P.underlying t = some u ∧ isAggB P t = d.agg := by
  unfold descB at h
  unfold isAggB
  split at h <;> simp_all [TD.agg]

/-! ### Parts of cells -/
theorem getPart_rep {P : Program} {tb : Tb} (HT : TbOk P tb) {Γ : Gh} {t off : Nat} {cs : List AV} {vs : List Value} {v : AV} (h : getPart (tb.at t) off cs = some v) (hr : RepL Γ cs vs) :
    ∃ u f, RepV Γ v u ∧ P.info? t = some f ∧ ((isAggB P t = true ∧ off + f.size ≤ vs.length ∧ u = .agg ((vs.drop off).take f.size).toArray) ∨ (isAggB P t = false ∧ vs[off]? = some u)) ∧ ∃ d, P.underlying t = some d := by
  unfold getPart at h
  cases ha : (tb.at t).d.agg with
  | true =>
    rw [ha] at h
    obtain ⟨hle, h⟩ := cond_some h
    injection h with h
    subst h
    have ok : (tb.at t).d.ok = true := by cases hd : (tb.at t).d <;> simp_all [TD.agg, TD.ok]
    obtain ⟨⟨f, z, hf, _, hs, _⟩, hdesc, _, _⟩ := at_ok HT ok
    obtain ⟨u, hu, hag⟩ := desc_some hdesc
    have hlen := hr.len
    refine ⟨_, f, by simp only [RepV]; exact ⟨_, rfl, (hr.drop off).take _⟩, hf, .inl ⟨hag.trans ha, ?_, by rw [hs]⟩, u, hu⟩
    rw [hs, hlen]
    exact Nat.le_of_ble_eq_true hle
  | false =>
    rw [ha] at h
    obtain ⟨h1, h⟩ := cond_some (b := Nat.beq (tb.at t).size 1) h
    obtain ⟨⟨f, z, hf, _, hs, _⟩, hdesc, _, _⟩ := at_size HT (t := t) (by rw [Nat.eq_of_beq_eq_true h1]; exact Nat.one_pos)
    obtain ⟨u, hu, hag⟩ := desc_some hdesc
    obtain ⟨x, hx, hv⟩ := hr.at h
    exact ⟨x, f, hv, hf, .inr ⟨hag.trans ha, hx⟩, u, hu⟩

theorem run_load_agg {P : Program} {w : World} {t : TypeId} {d : TypeDesc} {f : TypeInfo} (hu : P.underlying t = some d) (hf : P.info? t = some f) (ha : isAggB P t = true) (ad : Addr) (us : List Value) (hl : us.length = f.size) (hc : ∀ j u, us[j]? = some u → w.cell? (ad.add j) = some u) :
    (loadVar t ad).run P w = .ok (.agg us.toArray) w := by
  unfold loadVar
  simp only [Sem.run_bind, run_isAgg hu, Result.andThen_ok, ha, if_true, run_sizeOf hf]
  rw [← hl, run_loadCells_list w ad us hc]
  rfl
theorem run_load_one {P : Program} {w : World} {t : TypeId} {d : TypeDesc} (hu : P.underlying t = some d) (ha : isAggB P t = false) (ad : Addr) (u : Value) (hc : w.cell? ad = some u) :
    (loadVar t ad).run P w = .ok u w := by
  unfold loadVar
  simp only [Sem.run_bind, run_isAgg hu, Result.andThen_ok, ha, Bool.false_eq_true, if_false, run_load, hc]
/-- What is read at an address behind which cells lie. -/
theorem load_part {P : Program} {tb : Tb} (HT : TbOk P tb) {Γ : Gh} {t off : Nat} {cs : List AV} {vs : List Value} {v : AV} (h : getPart (tb.at t) off cs = some v) (hr : RepL Γ cs vs) (ad : Addr) (hc : ∀ j u, vs[j]? = some u → Γ.w.cell? (ad.add j) = some u) :
    ∃ u, RepV Γ v u ∧ (loadVar t (ad.add off)).run P Γ.w = .ok u Γ.w := by
  obtain ⟨u, f, hv, hf, hcase, d, hu⟩ := getPart_rep HT h hr
  refine ⟨u, hv, ?_⟩
  rcases hcase with ⟨ha, hle, rfl⟩ | ⟨ha, hx⟩
  · refine run_load_agg hu hf ha _ _ (by rw [List.length_take, List.length_drop]; omega) fun j x hj => ?_
    rw [add_add]
    apply hc
    rw [List.getElem?_take] at hj
    split at hj
    · rwa [List.getElem?_drop] at hj
    · cases hj
  · exact run_load_one hu ha _ _ (hc off u hx)

theorem foldl_put (off : Nat) (vs cells : Array Value) (h : off + vs.size ≤ cells.size) :
    vs.zipIdx.foldl (fun cs (x : Value × Nat) => cs.setIfInBounds (off + x.2) x.1) cells = (cells.toList.take off ++ vs.toList ++ cells.toList.drop (off + vs.size)).toArray := by
  have e : vs.zipIdx.foldl (fun cs (x : Value × Nat) => cs.setIfInBounds (off + x.2) x.1) cells = (vs.toList.zipIdx 0).foldl (fun cs (x : Value × Nat) => cs.setIfInBounds (off + x.2) x.1) cells := by
    rw [← Array.foldl_toList]
    simp
  rw [e]
  obtain ⟨h1, h2⟩ := Great.foldl_set off vs.toList 0 cells
  apply Array.ext_getElem?
  intro k
  rw [h2 k]
  simp only [Nat.add_zero, Array.length_toList, List.getElem?_toArray]
  by_cases hk : k < off
  · rw [if_neg (by omega), List.append_assoc, List.getElem?_append_left (by simp; omega), List.getElem?_take, if_pos hk]
    simp
  · by_cases hk2 : k < off + vs.size
    · rw [if_pos ⟨by omega, hk2, by omega⟩, List.append_assoc, List.getElem?_append_right (by simp; omega), List.getElem?_append_left (by simp; omega)]
      congr 1
      simp
      omega
    · rw [if_neg (by omega), List.getElem?_append_right (by simp; omega), List.getElem?_drop]
      simp only [List.length_append, List.length_take, Array.length_toList]
      rw [show off + vs.size + (k - (min off cells.size + vs.size)) = k by omega]
      simp

/-! ### Elements of own rows -/
theorem rowShape {w : World} {B : Nat} {t : TypeId} {s : Nat} {v : Value} {n : Nat} {cs : List Value} (h : w.ownsRow B t s v n cs) : ∃ A c, v = .slice A n c := by
  rcases h.2 with ⟨rfl, rfl⟩ | ⟨g, cap, cur, rfl, _⟩
  · exact ⟨none, 0, rfl⟩
  · exact ⟨_, cap, rfl⟩
theorem rdD_at {α : Type} (d : α) (xs : List α) (i : Int) (h : i.toNat < xs.length) : xs[i.toNat]? = some (rdD d xs i) := by
  unfold rdD
  rw [List.getD_eq_getElem?_getD, List.getElem?_eq_getElem h]
  rfl
/-- The cells of an own row's element. -/
theorem row_elem {B : Nat} {Γ : Gh} {a : RowA} {g n c : Nat} (hr : RowRel B Γ a (.slice (some ⟨g, 0, none⟩) n c)) {i : Int} (hi : i.toNat < n) :
    n = a.xs.length ∧ ∃ us, RepT Γ.w Γ.R a.e (rdD a.e.dflt a.xs i) us ∧ ∀ j u, us[j]? = some u → Γ.w.cell? ⟨g, i.toNat * a.e.size + j, none⟩ = some u := by
  obtain ⟨cs, ho, hR⟩ := hr.own
  obtain ⟨A, c', he⟩ := rowShape ho
  injection he with _ hn _
  subst hn
  obtain ⟨us, hus, hc⟩ := hR _ _ (rdD_at _ _ _ hi)
  refine ⟨rfl, us, hus, fun j u hj => ?_⟩
  have hjs : j < a.e.size := by rw [← hus.len]; exact (List.getElem?_eq_some_iff.1 hj).1
  have hle : i.toNat * a.e.size + j < a.xs.length * a.e.size := by
    have : (i.toNat + 1) * a.e.size ≤ a.xs.length * a.e.size := Nat.mul_le_mul_right _ hi
    rw [Nat.add_mul, Nat.one_mul] at this
    omega
  rw [ho.cellAt _ hle]
  exact hc j u hj

/-! ### The operations -/
section
variable {P : Program} {tb : Tb} (HT : TbOk P tb) {B : Nat} {w0 : World} {Γ : Gh} {m : Mem} (M : MemRel B w0 Γ m)
include M

theorem pick_ok {c x y v : AV} {m' : Mem} {vc vx vy : Value} (h : kPick m pairK c x y = some (v, m')) (hc : RepV Γ c vc) (hx : RepV Γ x vx) (hy : RepV Γ y vy) :
    m' = m ∧ ∃ b, vc = .bool b ∧ RepV Γ v (if b then vx else vy) := by
  unfold kPick at h
  split at h
  · rename_i b
    simp only [RepV] at hc
    subst hc
    split at h
    · obtain ⟨rfl, rfl⟩ := pairK_some h
      simp only [RepV] at hx hy
      subst hx
      subst hy
      refine ⟨rfl, b, rfl, ?_⟩
      cases b <;> simp [RepV, selB]
    · obtain ⟨hk, h⟩ := cond_some h
      obtain ⟨rfl, rfl⟩ := pairK_some h
      simp only [RepV] at hx hy
      subst hx
      subst hy
      rw [← kb_eq hk]
      refine ⟨rfl, b, rfl, ?_⟩
      cases b <;> simp [RepV, selI]
    · cases b
      · obtain ⟨rfl, rfl⟩ := pairK_some h
        exact ⟨rfl, false, rfl, hy⟩
      · obtain ⟨rfl, rfl⟩ := pairK_some h
        exact ⟨rfl, true, rfl, hx⟩
  · cases h

theorem mkBox_ok {o : Oper} {cs : List AV} {v : AV} {m' : Mem} {us : Array Value} (h : mkBox o m pairK cs = some (v, m')) (hr : RepL Γ cs us.toList) (ty : TypeId) :
    OpRes P B w0 Γ (do pure (.pointer (some (← newRow ty us)))) v m' := by
  unfold mkBox at h
  split at h
  · rename_i d hd
    obtain ⟨hn, h⟩ := cond_some h
    obtain ⟨rfl, rfl⟩ := pairK_some h
    obtain ⟨M1, E1⟩ := M.addBox hn ty hr
    refine ⟨_, .pointer (some ⟨Γ.w.heap.size, 0, none⟩), E1, M1, ?_, ?_⟩
    · simp only [RepV]
      exact ⟨_, upd_same _ _ _, rfl⟩
    · rfl
  · cases h
include HT
theorem alloc_ok {o : Oper} {t : Nat} {v : AV} {m' : Mem} (h : cond (tb.at t).d.ok (mkBox o m pairK (tb.at t).zero) none = some (v, m')) : OpRes P B w0 Γ (Instr.alloc t true (.tuple #[])) v m' := by
  obtain ⟨ok, h⟩ := cond_some h
  obtain ⟨⟨f, z, hf, hz, _, _, hzr, _⟩, _⟩ := at_ok HT ok
  obtain ⟨Γ', u, E, M', hv, hr⟩ := mkBox_ok (P := P) M (us := z.cells) h (hzr Γ) t
  refine ⟨Γ', u, E, M', hv, ?_⟩
  rw [← hr]
  simp [Instr.alloc, zeroValue, typeInfo, hf, hz, newVar]
omit HT
theorem box_ok {o : Oper} {t : Nat} {x v : AV} {vx : Value} {m' : Mem} (h : kBox o m pairK t x = some (v, m')) (hx : RepV Γ x vx) : OpRes P B w0 Γ (Instr.box t vx) v m' := by
  unfold kBox at h
  split at h
  · rename_i cs hcs
    have := mkBox_ok (P := P) M (us := vx.cells) h (cellsK_rep hcs hx).1 t
    exact this
  · cases h
include HT
theorem load_ok {o : Oper} {t : Nat} {a v : AV} {va : Value} {m' : Mem} (h : kLoad tb o m pairK t a = some (v, m')) (ha : RepV Γ a va) : m' = m ∧ ∃ u, RepV Γ v u ∧ (Instr.loadAt t va).run P Γ.w = .ok u Γ.w := by
  unfold kLoad at h
  split at h
  · rename_i id off
    split at h
    · rename_i b hb
      split at h
      · rename_i x hx
        obtain ⟨_, h⟩ := cond_some h
        obtain ⟨rfl, rfl⟩ := pairK_some h
        simp only [RepV] at ha
        obtain ⟨blk, hμ, rfl⟩ := ha
        obtain ⟨us, ty, hcell, hl⟩ := (M.boxAt hμ hb).cells
        obtain ⟨u, hu, hrun⟩ := load_part HT hx hl ⟨blk, 0, none⟩ (fun j u hj => by
          rw [add_plain, cell_of_row Γ.w blk (0 + j) us ty (0, 0) hcell]
          simpa using hj)
        refine ⟨rfl, u, hu, ?_⟩
        rw [add_plain, Nat.zero_add] at hrun
        simp only [Instr.loadAt, Instr.sureAddr, Sem.run_bind, Sem.run_pure, Result.andThen_ok, hrun]
      · cases h
    · cases h
  · rename_i cs
    split at h
    · rename_i x hx
      obtain ⟨rfl, rfl⟩ := pairK_some h
      simp only [RepV] at ha
      obtain ⟨ad, us, rfl, hR, hp, hl, hc⟩ := ha
      obtain ⟨u, hu, hrun⟩ := load_part HT hx hl ad hc
      refine ⟨rfl, u, hu, ?_⟩
      rw [Addr.add_zero'] at hrun
      simp only [Instr.loadAt, Instr.sureAddr, Sem.run_bind, Sem.run_pure, Result.andThen_ok, hrun]
    · cases h
  · rename_i id e0 i off
    split at h
    · cases h
    · rename_i e xs et st hd hrow
      split at h
      · rename_i x hx
        obtain ⟨hok, h⟩ := cond_some h
        obtain ⟨rfl, rfl⟩ := pairK_some h
        simp only [RepV] at ha
        obtain ⟨g, n, c, hν, hi, rfl⟩ := ha
        have hsz : e0.size = e.size := Nat.eq_of_beq_eq_true ((Bool.and_eq_true _ _).mp hok).1
        have hrr := M.rowAt hν hrow (fun e' => hd e')
        obtain ⟨hn, us, hus, hc⟩ := row_elem hrr hi
        obtain ⟨u, hu, hrun⟩ := load_part HT hx hus.cells ⟨g, i.toNat * e.size, none⟩ (fun j u hj => by rw [add_plain]; exact hc j u hj)
        refine ⟨rfl, u, hu, ?_⟩
        rw [add_plain] at hrun
        rw [hsz]
        simp only [Instr.loadAt, Instr.sureAddr, Sem.run_bind, Sem.run_pure, Result.andThen_ok, hrun]
      · cases h
    · cases h
  · cases h
end
end Go.Proofs.Ytebokfdiamepcaa.AM
