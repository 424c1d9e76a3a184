/- The abstract machine, 13: rows are made. -/
import Derived.Test.YtebokfdiamepcaaL
set_option linter.unusedVariables false
set_option linter.unusedSimpArgs false
namespace Go.Proofs.Ytebokfdiamepcaa.AM
open Go.RowKit

theorem decV_rep {Γ : Gh} {κ : Kd} {v : AV} {u : Value} {x : κ.T} (h : decV κ v = some x) (hv : RepV Γ v u) : RepT Γ.w Γ.R κ x u.cells.toList := by
  have one : ∀ {κ : Kd} {x : κ.T}, κ.size = 1 → (match Kd.dec κ [v] with
      | some (x, []) => some x
      | _ => none) = some x → RepT Γ.w Γ.R κ x u.cells.toList := by
    intro κ x hs h
    split at h
    · rename_i y hd
      injection h with h
      subst h
      obtain ⟨us, ws, he, h1, h2⟩ := dec_rep hd (RepL.one.2 ⟨u, rfl, hv⟩)
      simp only [RepL] at h2
      subst h2
      rw [List.append_nil] at he
      subst he
      have ho := h1.one u (by simp)
      have : u.cells = #[u] := by cases u <;> first | rfl | (simp [Value.oneCell'] at ho)
      rw [this]
      exact h1
    · cases h
  unfold decV at h
  split at h
  · rename_i a b cs
    split at h
    · rename_i y hd
      injection h with h
      subst h
      simp only [RepV] at hv
      obtain ⟨vs, rfl, hvs⟩ := hv
      obtain ⟨us, ws, rfl, h1, h2⟩ := dec_rep hd hvs
      simp only [RepL] at h2
      subst h2
      simpa [Value.cells] using h1
    · cases h
  · cases h
  · cases h
  · rename_i κ' v' hp _ _
    refine one ?_ h
    cases κ <;> first | rfl | skip
    exact (hp _ _ rfl).elim

/-! ### Filling -/
def mkP (f : Operand → AV) (l : List (Nat × Operand)) : List (Nat × AV) := l.map fun p => (p.1, f p.2)
def mkQ (f : Operand → Value) (l : List (Nat × Operand)) : List (Nat × Value) := l.map fun p => (p.1, f p.2)
theorem fill_step {pl : Nat → Option (Nat × Nat)} {i off n : Nat} {v : Value} {cells : Array Value} {rest : List (Nat × Value)} (hp : pl i = some (off, n)) (hn : v.cells.size = n) (hle : off + n ≤ cells.size) :
    Instr.fill pl cells ((i, v) :: rest) = Instr.fill pl (cells.toList.take off ++ v.cells.toList ++ cells.toList.drop (off + n)).toArray rest := by
  have h1 : (decide (v.cells.size ≠ n) || decide (off + v.cells.size > cells.size)) = false := by
    rw [hn]
    simp
    omega
  simp only [Instr.fill, hp, h1, Bool.false_eq_true, if_false]
  rw [← hn, foldl_put off v.cells cells (by omega)]

theorem put_length {α : Type} (cells vs : List α) (off n : Nat) (hn : vs.length = n) (h : off + n ≤ cells.length) : (cells.take off ++ vs ++ cells.drop (off + n)).length = cells.length := by
  simp only [List.length_append, List.length_take, List.length_drop]
  omega

section
variable {P : Program} {tb : Tb} (HT : TbOk P tb) {B : Nat} {w0 : World} {Γ : Gh} {m : Mem} (M : MemRel B w0 Γ m)
include HT
omit HT in
theorem putPart_rep {Γ : Gh} {off : Nat} {vs cs cs' : List AV} {us xs : List Value} (h : putPart off vs cs = some cs') (hv : RepL Γ vs us) (hc : RepL Γ cs xs) :
    off + us.length ≤ xs.length ∧ RepL Γ cs' (xs.take off ++ us ++ xs.drop (off + us.length)) := by
  unfold putPart at h
  obtain ⟨hle, h⟩ := cond_some h
  injection h with h
  subst h
  have h1 := hv.len
  have h2 := hc.len
  have hle' := Nat.le_of_ble_eq_true hle
  rw [h1, h2]
  exact ⟨hle', ((hc.take off).app hv).app (hc.drop _)⟩
omit HT in
theorem fillA_ok {ev : Operand → AV} {aev : Operand → Value} (he : ∀ x, RepV Γ (ev x) (aev x)) {ti : TI} {pl : Nat → Option (Nat × Nat)} (hpl : ∀ i p, place tb ti i = some p → pl i = some p) :
    ∀ (l : List (Nat × Operand)) {cs cs' : List AV} {cells : Array Value}, fillA tb ti (mkP ev l) cs = some cs' → RepL Γ cs cells.toList → ∃ cells', Instr.fill pl cells (mkQ aev l) = some cells' ∧ RepL Γ cs' cells'.toList
  | [], cs, cs', cells, h, hc => by
    simp only [mkP, List.map_nil, fillA, Option.some.injEq] at h
    subst h
    exact ⟨cells, rfl, hc⟩
  | (i, x) :: l, cs, cs', cells, h, hc => by
    simp only [mkP, List.map_cons, fillA] at h
    split at h
    · rename_i off n vs hp hv
      obtain ⟨hn, h⟩ := cond_some h
      split at h
      · rename_i cs1 h1
        obtain ⟨hv1, hv2, _⟩ := cellsK_rep hv (he x)
        have hlen := hv1.len
        have hn' := Nat.eq_of_beq_eq_true hn
        obtain ⟨hle, hc1⟩ := putPart_rep h1 hv1 hc
        rw [hlen, hn'] at hle hc1
        obtain ⟨cells', hf, hr⟩ := fillA_ok he hpl l (cells := (cells.toList.take off ++ (aev x).cells.toList ++ cells.toList.drop (off + n)).toArray) h hc1
        refine ⟨cells', ?_, hr⟩
        show Instr.fill pl cells ((i, aev x) :: mkQ aev l) = some cells'
        rw [fill_step (hpl i _ hp) (by rw [← Array.length_toList, hlen, hn']) (by simpa using hle)]
        exact hf
      · cases h
    · cases h

omit HT in
theorem places_all (fs : List Field) (h : fs.all (fun f => (P.info? f.type).isSome) = true) : ∃ places, fs.mapM (fun f => (P.info? f.type).map fun i => (f.offset, i.size)) = some places ∧
    ∀ (i : Nat) g, fs[i]? = some g → ∃ j, P.info? g.type = some j ∧ places[i]? = some (g.offset, j.size) := by
  induction fs with
  | nil => exact ⟨[], rfl, fun i g hg => by simp at hg⟩
  | cons f fs ih =>
    simp only [List.all_cons, Bool.and_eq_true] at h
    obtain ⟨places, hp, hq⟩ := ih h.2
    obtain ⟨j, hj⟩ := Option.isSome_iff_exists.1 h.1
    refine ⟨(f.offset, j.size) :: places, by simp [List.mapM_cons, hj, hp], fun i g hg => ?_⟩
    cases i with
    | zero =>
      obtain rfl : f = g := by simpa using hg
      exact ⟨j, hj, rfl⟩
    | succ i => exact hq i g (by simpa using hg)

theorem build_ok {t : Nat} {l : List (Nat × Operand)} {ev : Operand → AV} {aev : Operand → Value} (he : ∀ x, RepV Γ (ev x) (aev x)) {v : AV} {m' : Mem} (h : kBuild tb m pairK t (mkP ev l) = some (v, m')) :
    m' = m ∧ ∃ u, RepV Γ v u ∧ (Instr.build t (mkQ aev l).toArray).run P Γ.w = .ok u Γ.w := by
  unfold kBuild at h
  split at h
  · rename_i cs hcs
    obtain ⟨hbld, h⟩ := cond_some h
    obtain ⟨rfl, rfl⟩ := pairK_some h
    have hfin : ∀ pl, (∀ z f cells', P.info? t = some f → f.zero = some z → Instr.fill pl z.cells (mkQ aev l) = some cells' → P.built t (mkQ aev l) = some cells') → (∀ i p, place tb (tb.at t) i = some p → pl i = some p) → TiOk P t (tb.at t) →
        ∃ u, RepV Γ (.agg cs) u ∧ (Instr.build t (mkQ aev l).toArray).run P Γ.w = .ok u Γ.w := by
      intro pl hb hpl ok
      obtain ⟨⟨f, z, hf, hz, _, _, hzr, _⟩, _⟩ := ok
      obtain ⟨cells', hfill, hr⟩ := fillA_ok he hpl l hcs (hzr Γ)
      refine ⟨.agg cells', ?_, run_build Γ.w t _ cells' (hb z f cells' hf hz hfill)⟩
      simp only [RepV]
      exact ⟨cells'.toList, by simp, hr⟩
    refine ⟨rfl, ?_⟩
    have hok : (tb.at t).d.ok = true := by cases hd : (tb.at t).d <;> simp_all [bldB, TD.ok]
    · have ok := at_ok HT hok
      have hdesc := ok.desc
      cases hd : (tb.at t).d
      case arr n e =>
        rw [hd] at hdesc
        have hu := desc_arr hdesc
        have hs : 0 < (tb.at e).size := by rw [hd] at hbld; simp only [bldB, Nat.blt, Nat.ble_eq] at hbld; omega
        · obtain ⟨⟨g, _, hg, _, hgs, _⟩, _⟩ := at_size HT hs
          refine hfin (fun i => some (i * g.size, g.size)) (fun z f cells' hf hz hfill => ?_) (fun i p hp => ?_) ok
          · simp only [Program.built, hf, hu, hz, hg]
            exact hfill
          · simp only [place, hd] at hp
            rw [hgs, ← (cond_some hp).2]
      case st fs =>
        rw [hd] at hdesc
        obtain ⟨gs, hu, hl⟩ := desc_st hdesc
        have hfs := ok.fields
        simp only [fieldsB, hu] at hfs
        obtain ⟨places, hp, hq⟩ := places_all gs.toList hfs
        refine hfin (places.toArray[·]?) (fun z f cells' hf hz hfill => ?_) (fun i p hpi => ?_) ok
        · simp only [Program.built, hf, hu, hz, hp]
          exact hfill
        · simp only [place, hd] at hpi
          split at hpi
          · rename_i off u hfu
            obtain ⟨hpos, hpi⟩ := cond_some hpi
            injection hpi with hpi
            subst hpi
            rw [← hl, List.getElem?_map] at hfu
            obtain ⟨g, hg, hge⟩ := Option.map_eq_some_iff.1 hfu
            simp only [Prod.mk.injEq] at hge
            obtain ⟨rfl, rfl⟩ := hge
            obtain ⟨j, hj, hpj⟩ := hq i g hg
            obtain ⟨⟨j', _, hj', _, hjs, _⟩, _⟩ := at_size HT (t := g.type) (by simp only [Nat.blt, Nat.ble_eq] at hpos; omega)
            rw [hj] at hj'
            injection hj' with hj'
            subst hj'
            simpa [hjs] using hpj
          · cases hpi
      all_goals (rw [hd] at hbld; simp [bldB] at hbld)
  · cases h

/-! ### Rows of data -/
omit HT in
theorem repR_len {w : World} {R : Nat → Prop} {e : Kd} {xs : List e.T} {cs : List Value} (h : RepR w R e xs cs) {i j : Nat} {x : e.T} (hi : xs[i]? = some x) {us : List Value} (hu : us.length = e.size) (hj : j < e.size) : True := trivial
omit HT in
theorem madeCells_at (z : Array Value) (n k : Nat) (hk : k < n) (hz : 0 < z.size) : (madeCells z n)[k]? = z[k % z.size]? := by
  have hm : k % z.size < z.size := Nat.mod_lt _ hz
  simp [madeCells, hk, hm]
omit HT in
theorem made_rep {w : World} {R : Nat → Prop} {e : Kd} {z : Value} (hz : RepT w R e e.dflt z.cells.toList) (n : Nat) : RepR w R e (List.replicate n e.dflt) (madeCells z.cells (n * e.size)).toList := by
  intro i x hx
  have hi : i < n := by
    have := (List.getElem?_eq_some_iff.1 hx).1
    simpa using this
  have hx' : x = e.dflt := by
    rw [List.getElem?_replicate, if_pos hi] at hx
    injection hx with hx
    exact hx.symm
  subst hx'
  have hlen := hz.len
  have hs : z.cells.size = e.size := by rw [← hlen, Array.length_toList]
  refine ⟨_, hz, fun j u hj => ?_⟩
  have hjs : j < e.size := by rw [← hlen]; exact (List.getElem?_eq_some_iff.1 hj).1
  have hk : i * e.size + j < n * e.size := by
    have : (i + 1) * e.size ≤ n * e.size := Nat.mul_le_mul_right _ hi
    rw [Nat.add_mul, Nat.one_mul] at this
    omega
  rw [Array.getElem?_toList, madeCells_at _ _ _ hk (by rw [hs]; exact size_pos e), hs, Nat.mul_comm, Nat.mul_add_mod, Nat.mod_eq_of_lt hjs]
  simpa using hj
omit HT in
theorem repR_set {w : World} {R : Nat → Prop} {e : Kd} {xs : List e.T} {cs : List Value} (h : RepR w R e xs cs) (hl : cs.length = xs.length * e.size) {i : Nat} {x : e.T} {us : List Value} (hu : RepT w R e x us) (hi : i < xs.length) :
    RepR w R e (xs.set i x) (cs.take (i * e.size) ++ us ++ cs.drop (i * e.size + e.size)) := by
  have hus := hu.len
  have hle : i * e.size + e.size ≤ cs.length := by
    rw [hl, ← Nat.succ_mul]
    exact Nat.mul_le_mul_right _ hi
  intro j y hy
  by_cases hij : j = i
  · subst hij
    rw [List.getElem?_set_self hi] at hy
    injection hy with hy
    subst hy
    refine ⟨us, hu, fun q u hq => ?_⟩
    have hqs : q < e.size := by rw [← hus]; exact (List.getElem?_eq_some_iff.1 hq).1
    rw [List.append_assoc, List.getElem?_append_right (by simp; omega), List.getElem?_append_left (by simp; omega)]
    simp only [List.length_take]
    rw [show j * e.size + q - min (j * e.size) cs.length = q by omega]
    exact hq
  · rw [List.getElem?_set_ne (fun e => hij e.symm)] at hy
    obtain ⟨vs, hv, hc⟩ := h j y hy
    refine ⟨vs, hv, fun q u hq => ?_⟩
    have hqs : q < e.size := by rw [← hv.len]; exact (List.getElem?_eq_some_iff.1 hq).1
    rw [← hc q u hq]
    rcases Nat.lt_or_gt_of_ne hij with hlt | hgt
    · have : (j + 1) * e.size ≤ i * e.size := Nat.mul_le_mul_right _ hlt
      rw [Nat.add_mul, Nat.one_mul] at this
      rw [List.append_assoc, List.getElem?_append_left (by simp; omega), List.getElem?_take, if_pos (by omega)]
    · have : (i + 1) * e.size ≤ j * e.size := Nat.mul_le_mul_right _ hgt
      rw [Nat.add_mul, Nat.one_mul] at this
      rw [List.getElem?_append_right (by simp; omega), List.getElem?_drop]
      simp only [List.length_append, List.length_take]
      rw [show i * e.size + e.size + (j * e.size + q - (min (i * e.size) cs.length + us.length)) = j * e.size + q by omega]
omit HT in
theorem repR_app {w : World} {R : Nat → Prop} {e : Kd} {xs ys : List e.T} {cs ds : List Value} (h : RepR w R e xs cs) (hl : cs.length = xs.length * e.size) (k : RepR w R e ys ds) : RepR w R e (xs ++ ys) (cs ++ ds) := by
  intro i x hx
  rcases Nat.lt_or_ge i xs.length with hi | hi
  · rw [List.getElem?_append_left hi] at hx
    obtain ⟨us, hu, hc⟩ := h i x hx
    refine ⟨us, hu, fun j u hj => ?_⟩
    have hjs : j < e.size := by rw [← hu.len]; exact (List.getElem?_eq_some_iff.1 hj).1
    have : (i + 1) * e.size ≤ xs.length * e.size := Nat.mul_le_mul_right _ hi
    rw [Nat.add_mul, Nat.one_mul] at this
    rw [List.getElem?_append_left (by omega)]
    exact hc j u hj
  · rw [List.getElem?_append_right hi] at hx
    obtain ⟨us, hu, hc⟩ := k _ x hx
    refine ⟨us, hu, fun j u hj => ?_⟩
    have : xs.length * e.size ≤ i * e.size := Nat.mul_le_mul_right _ hi
    rw [List.getElem?_append_right (by omega), hl]
    rw [show i * e.size + j - xs.length * e.size = (i - xs.length) * e.size + j by rw [Nat.sub_mul]; omega]
    exact hc j u hj

omit HT in
theorem setAll_ok {e : Kd} {f : AV → AV} {ev : Operand → AV} {aev : Operand → Value} (he : ∀ x, RepV Γ (ev x) (aev x)) {Γ' : Gh} :
    ∀ (l : List (Nat × Operand)), (∀ p ∈ l, RepV Γ' (f (ev p.2)) (aev p.2)) → ∀ {xs xs' : List e.T} {cells : Array Value}, setAll e f (mkP ev l) xs = some xs' → RepR Γ'.w Γ'.R e xs cells.toList → cells.size = xs.length * e.size →
      ∃ cells', Instr.fill (fun i => some (i * e.size, e.size)) cells (mkQ aev l) = some cells' ∧ cells'.size = cells.size ∧ RepR Γ'.w Γ'.R e xs' cells'.toList ∧ xs'.length = xs.length
  | [], _, xs, xs', cells, h, hr, hs => by
    simp only [mkP, List.map_nil, setAll, Option.some.injEq] at h
    subst h
    exact ⟨cells, rfl, rfl, hr, rfl⟩
  | (i, x) :: l, hl, xs, xs', cells, h, hr, hs => by
    simp only [mkP, List.map_cons, setAll] at h
    split at h
    · rename_i y hy
      obtain ⟨hlt, h⟩ := cond_some h
      have hi : i < xs.length := Nat.le_of_ble_eq_true hlt
      have hu := decV_rep hy (hl (i, x) List.mem_cons_self)
      have hlen := hu.len
      have hle : i * e.size + e.size ≤ cells.size := by
        rw [hs, ← Nat.succ_mul]
        exact Nat.mul_le_mul_right _ hi
      have hput := put_length cells.toList (aev x).cells.toList (i * e.size) e.size hlen (by simpa using hle)
      obtain ⟨cells', hf, h1, h2, h3⟩ := setAll_ok he l (fun p hp => hl p (List.mem_cons_of_mem _ hp)) (cells := (cells.toList.take (i * e.size) ++ (aev x).cells.toList ++ cells.toList.drop (i * e.size + e.size)).toArray) h
        (by simpa using repR_set hr (by simpa using hs) hu hi) (by rw [List.size_toArray, hput, Array.length_toList, hs, List.length_set])
      refine ⟨cells', ?_, by rw [h1, List.size_toArray, hput, Array.length_toList], h2, by rw [h3, List.length_set]⟩
      show Instr.fill _ cells ((i, aev x) :: mkQ aev l) = some cells'
      rw [fill_step rfl (by rw [← Array.length_toList, hlen]) hle]
      exact hf
    · cases h
end
section
variable {P : Program} {B : Nat} {w0 : World} {Γ : Gh} {m : Mem} (M : MemRel B w0 Γ m)
include M
/-- A new row behind a world that has gone on. -/
theorem mkRow_ok {o : Oper} {e : Kd} {t : Nat} {xs : List e.T} {v : AV} {m' : Mem} (h : mkRow o pairK e t xs m = some (v, m')) {u : Value} {cs : List Value} (ho : Γ.w.ownsRow B t e.size u xs.length cs) (hr : RepR Γ.w Γ.R e xs cs) (hf : ∀ g, u.ownBlock = some g → Free Γ m g) :
    ∃ Γ', Ext B Γ Γ' ∧ MemRel B w0 Γ' m' ∧ RepV Γ' v u ∧ Γ'.w = Γ.w := by
  unfold mkRow at h
  split at h
  · rename_i d hd
    obtain ⟨hn, h⟩ := cond_some h
    obtain ⟨rfl, rfl⟩ := pairK_some h
    obtain ⟨M1, E1⟩ := M.addRow hn (a := ⟨e, xs, t, .own⟩) (v := u) rfl ⟨cs, ho, hr⟩ hf
    refine ⟨_, E1, M1, ?_, rfl⟩
    simp only [RepV]
    refine ⟨upd_same _ _ _, ?_⟩
    rcases ho.2 with ⟨rfl, hz⟩ | ⟨g, cap, cur, rfl, _⟩
    · exact .inl ⟨hz, rfl⟩
    · exact .inr ⟨g, cap, rfl⟩
  · cases h
variable {tb : Tb} (HT : TbOk P tb)
include HT
theorem buildSlice_fin {o : Oper} {t len et : Nat} {κ : Kd} (hu : P.underlying t = some (.slice et)) (hκ : (tb.at et).kd = some κ) (hsmall : len * κ.size ≤ 16777216) {l : List (Nat × Operand)} {ev : Operand → AV} {aev : Operand → Value} (he : ∀ x, RepV Γ (ev x) (aev x)) {f : AV → AV} (hf : ∀ p ∈ l, RepV Γ (f (ev p.2)) (aev p.2))
    {xs : List κ.T} (hset : setAll κ f (mkP ev l) (List.replicate len κ.dflt) = some xs) {v : AV} {m' : Mem} (h : mkRow o pairK κ et xs m = some (v, m')) :
    OpRes P B w0 Γ (Instr.buildSlice t len (mkQ aev l).toArray) v m' := by
  obtain ⟨⟨fi, z, hfi, hz, hfs, _, _, hzs, hkd⟩, _⟩ := at_kd HT hκ
  obtain ⟨hks, _, _, hzr⟩ := hkd κ hκ
  have hzs' : z.cells.size = κ.size := by rw [hzs, hks]
  have hfs' : fi.size = κ.size := by rw [hfs, hks]
  have hmade := made_rep (hzr Γ.w Γ.R) len
  obtain ⟨cells', hfill, h1, h2, h3⟩ := setAll_ok he (Γ' := Γ) l hf (cells := madeCells z.cells (len * κ.size)) hset hmade (by rw [size_madeCells, List.length_replicate])
  rw [List.length_replicate] at h3
  obtain ⟨M1, E1⟩ := M.grow (World.grownBy_alloc Γ.w (.cells cells' et) none)
  have hb : cells'.size = len * κ.size := by rw [h1, size_madeCells]
  have ho := World.ownsRow_lit (base := B) (e := et) (size := κ.size) Γ.w cells' len M.base (by simp only [maxLen]; have := size_pos κ; have : len ≤ len * κ.size := Nat.le_mul_of_pos_right _ this; omega) hb
  obtain ⟨Γ', E', M', hv, hw⟩ := mkRow_ok M1 h (u := .slice (some ⟨Γ.w.heap.size, 0, none⟩) len len) (cs := cells'.toList) (by rw [h3]; exact ho) (h2.mono E1.heap E1.R) (fun g hg => by
    simp only [Value.ownBlock, Option.some.injEq] at hg
    subst hg
    exact M.free_new (Nat.le_refl _) |> fun hF => ⟨hF.1, hF.2.1, hF.2.2⟩)
  refine ⟨Γ', _, E1.trans E', M', hv, ?_⟩
  rw [hw]
  by_cases hpos : len * fi.size = 0
  · have hlen0 : len = 0 := by
      rcases Nat.mul_eq_zero.1 hpos with h | h
      · exact h
      · have := size_pos κ; omega
    subst hlen0
    have hc0 : madeCells z.cells (0 * κ.size) = #[] := by simp [madeCells]
    rw [hc0] at hfill
    simp [Instr.buildSlice, run_underlying hu, sizeOf, typeInfo, hfi, hfs', Array.range_zero', hfill, newRow]
  · rw [run_buildSlice Γ.w t et len _ cells' fi z hu hfi hz (by rw [hfs']; omega) hpos (by rw [hfs']; exact hfill)]
theorem buildSlice_ok {o : Oper} {t len : Nat} {l : List (Nat × Operand)} {ev : Operand → AV} {aev : Operand → Value} (he : ∀ x, RepV Γ (ev x) (aev x)) {v : AV} {m' : Mem} (h : kBuildSlice tb o m pairK t len (mkP ev l) = some (v, m')) :
    OpRes P B w0 Γ (Instr.buildSlice t len (mkQ aev l).toArray) v m' := by
  unfold kBuildSlice at h
  split at h
  · rename_i et hd
    have hdesc := (at_ok HT (t := t) (by rw [hd]; rfl)).desc
    rw [hd] at hdesc
    have hu := desc_sl hdesc
    split at h
    · rename_i κ hκ
      obtain ⟨hsmall, h⟩ := cond_some h
      have hsmall' := Nat.le_of_ble_eq_true hsmall
      cases hfl : κ.flat
      · rw [hfl] at h
        simp only [cond] at h
        split at h
        · rename_i xs hset
          cases hptr : (mkP ev l).any fun p => ptrA p.2
          · rw [hptr] at h
            simp only at h
            obtain ⟨R', M', E', hR'⟩ := M.fixL ((mkP ev l).flatMap fun p => rowsA m p.2)
            have L : ∀ p ∈ l, Lends Γ { Γ with R := R' } m (rowsA m (ev p.2)) (ptrsA (ev p.2)) := fun p hp => ⟨rfl, E'.R, fun b ⟨i, hi, hb⟩ => (hR' b).2 (.inr ⟨i, by
                rw [List.mem_flatMap]
                exact ⟨(p.1, ev p.2), List.mem_map.2 ⟨p, hp, rfl⟩, hi⟩, hb⟩), fun i hi => by
                rw [ptrs_none (by simpa using List.any_eq_false.1 hptr (p.1, ev p.2) (List.mem_map.2 ⟨p, hp, rfl⟩))] at hi
                cases hi⟩
            obtain ⟨Γ', u, E2, M2, hv, hrun⟩ := buildSlice_fin M' HT hu hκ hsmall' (fun x => (he x).ext E') (f := lend m) (fun p hp => lend_rep M (L p hp) (he p.2)) hset h
            exact ⟨Γ', u, E'.trans E2, M2, hv, hrun⟩
          · rw [hptr] at h
            cases h
        · cases h
      · rw [hfl] at h
        simp only [cond] at h
        split at h
        · rename_i xs hset
          exact buildSlice_fin M HT hu hκ hsmall' he (f := fun v => v) (fun p hp => he p.2) hset h
        · cases h
    · cases h
  · cases h
end
end Go.Proofs.Ytebokfdiamepcaa.AM
