/- The abstract machine, 25: cuts. -/
import Derived.Test.YtebokfdiamepcaaAh
set_option linter.unusedVariables false
set_option linter.unusedSimpArgs false
namespace Go.Proofs.Ytebokfdiamepcaa.AM
open Go.RowKit

theorem fixRows_other {id : Nat} : ∀ {F : List Nat} {r : Nat → Option RowA}, id ∉ F → fixRows r F id = r id
  | [], _, _ => rfl
  | j :: F, r, h => by
    have hj : id ≠ j := fun e => h (by rw [e]; exact List.mem_cons_self)
    have hF : id ∉ F := fun e => h (List.mem_cons_of_mem _ e)
    simp only [fixRows]
    rw [fixRows_other hF]
    cases r j with
    | none => rfl
    | some a => exact upd_other _ _ hj
theorem fix_row {m : Mem} {F : List Nat} {id : Nat} (h : id ∉ F) : (m.fix F).row id = m.row id := by
  rw [fix_eq]
  exact fixRows_other h
theorem fix_boxes (m : Mem) (F : List Nat) : (m.fix F).box = m.box := by rw [fix_eq]
theorem noDup_app : ∀ {a b : List Nat}, noDup (a ++ b) = true → noDup a = true ∧ noDup b = true ∧ ∀ i ∈ a, i ∉ b
  | [], b, h => ⟨rfl, h, fun i hi => by cases hi⟩
  | x :: a, b, h => by
    simp only [List.cons_append, noDup, Bool.and_eq_true, List.all_eq_true, Bool.not_eq_true'] at h ⊢
    obtain ⟨h1, h2, h3⟩ := noDup_app h.2
    have hx : ∀ y ∈ a ++ b, x ≠ y := fun y hy e => by
      have := h.1 y hy
      rw [e, Nat.beq_refl] at this
      cases this
    refine ⟨⟨fun y hy => h.1 y (List.mem_append_left _ hy), h1⟩, h2, fun i hi => ?_⟩
    rcases List.mem_cons.1 hi with rfl | hi
    · exact fun hb => hx i (List.mem_append_right _ hb) rfl
    · exact h3 i hi

section
variable {B : Nat} {w0 : World} {Γ : Gh} {R1 : Nat → Prop} {m : Mem} {fx : List Nat} (M : MemRel B w0 Γ m) (M1 : MemRel B w0 { Γ with R := R1 } (m.fix fx)) (L : Lends Γ { Γ with R := R1 } m fx [])
include M L in
theorem cells_cut {κ : Kd} {cs : List AV} {us : List Value} {x : κ.T} (h : Kd.dec κ (cs.map (lendC m)) = some (x, [])) (hr : RepL Γ cs us) (hf : ∀ i ∈ (cs.take κ.size).flatMap rowsC, i ∈ fx) {Γk : Gh} (hw : Γk.w = Γ.w) (hR : Γk.R = R1) : RepL Γk (κ.cells x) us := by
  have hl : cs.take κ.size = cs := by
    apply List.take_of_length_le
    have := dec_len κ h
    simp at this
    omega
  rw [hl] at hf
  have h1 := lendCs_rep M (L.mono hf (by simp)) hr
  obtain ⟨u1, ws, e, h2, h3⟩ := dec_rep h h1
  simp only [RepL] at h3
  subst h3
  rw [List.append_nil] at e
  subst e
  have h4 : RepT Γk.w Γk.R κ x us := by
    rw [hw, hR]
    exact h2
  exact h4.cells
include M M1 L
theorem sc_step : ∀ (l : List SC) {cs : List AV} {us : List Value} {x : prodT (l.map SC.T)} {base : Nat} {Γk : Gh} {mk : Mem} {own : List Nat}, scDec m l cs = some x → RepL Γ cs us → Bld B w0 { Γ with R := R1 } (m.fix fx) own base Γk mk →
    noDup (ownC l cs) = true → (∀ i ∈ ownC l cs, i ∉ own ∧ i ∉ fx) → (∀ i ∈ fixC l cs, i ∈ fx) →
    ∃ Γk', Bld B w0 { Γ with R := R1 } (m.fix fx) (ownC l cs ++ own) (base + l.length) Γk' (scMem base l x mk) ∧ Ext B Γk Γk' ∧ RepL Γk' (scAv base l x) us
  | [], cs, us, x, base, Γk, mk, own, h, hr, b, hn, ho, hf => by
    have hcs : cs = [] := by
      cases cs with
      | nil => rfl
      | cons c cs => exact absurd (show (none : Option Unit) = some x from h) (by simp)
    subst hcs
    exact ⟨Γk, b, Ext.refl B Γk, by simpa only [scAv, RepL] using hr⟩
  | [.d κ], cs, us, x, base, Γk, mk, own, h, hr, b, hn, ho, hf => by
    replace h : (match Kd.dec κ (cs.map (lendC m)) with
      | some (x, []) => some x
      | _ => none : Option κ.T) = some x := h
    split at h
    · rename_i y hy
      injection h with h
      subst h
      refine ⟨Γk, b.weak (fun j hj => List.mem_append_right _ hj) (Nat.le_add_right _ _), Ext.refl B Γk, ?_⟩
      exact cells_cut M L hy hr (fun i hi => hf i (List.mem_append_left _ hi)) b.w b.R
    · cases h
  | [.row e t], cs, us, x, base, Γk, mk, own, h, hr, b, hn, ho, hf => by
    cases cs with
    | nil => exact absurd (show (none : Option (List e.T)) = some x from h) (by simp)
    | cons c cs =>
      cases cs with
      | cons c' cs => exact absurd (show (none : Option (List e.T)) = some x from h) (by simp)
      | nil =>
        replace h : rowDec m e t c = some x := h
        obtain ⟨u, rfl, hu⟩ := RepL.one.1 hr
        have hown : ownC [.row e t] [c] = rowsC c := List.append_nil _
        rw [hown] at ho ⊢
        obtain ⟨Γk', b', E, hv⟩ := b.rowDec M1 (c := c) (m := m) (Γ := Γ) (fun i hi => fix_row (ho i hi).2) rfl h hu (fun i hi => (ho i hi).1)
        exact ⟨Γk', b', E, RepL.one.2 ⟨u, rfl, hv⟩⟩
  | .d κ :: q :: r, cs, us, x, base, Γk, mk, own, h, hr, b, hn, ho, hf => by
    replace h : (match Kd.dec κ ((cs.take κ.size).map (lendC m)), scDec m (q :: r) (cs.drop κ.size) with
      | some (x, []), some y => some (x, y)
      | _, _ => none : Option (κ.T × prodT ((q :: r).map SC.T))) = some x := h
    split at h
    · rename_i y z hy hz
      injection h with h
      subst h
      have hrt := hr.take κ.size
      have hrd := hr.drop κ.size
      obtain ⟨Γk', b', E, hv⟩ := sc_step (q :: r) (base := base + 1) (own := own) hz hrd (b.weak (fun _ h => h) (Nat.le_succ _)) hn ho (fun i hi => hf i (List.mem_append_right _ hi))
      refine ⟨Γk', b'.weak (fun _ h => h) (by rw [List.length_cons, List.length_cons, List.length_cons]; omega), E, ?_⟩
      have h1 := cells_cut M L (Γk := Γk') hy hrt (fun i hi => hf i (List.mem_append_left _ (by rw [List.take_take, Nat.min_self] at hi; exact hi))) b'.w b'.R
      have := h1.app hv
      rwa [List.take_append_drop] at this
    · cases h
  | .row e t :: q :: r, cs, us, x, base, Γk, mk, own, h, hr, b, hn, ho, hf => by
    cases cs with
    | nil => exact absurd (show (none : Option (List e.T × prodT ((q :: r).map SC.T))) = some x from h) (by simp)
    | cons c cs =>
      replace h : (match rowDec m e t c, scDec m (q :: r) cs with
        | some x, some y => some (x, y)
        | _, _ => none : Option (List e.T × prodT ((q :: r).map SC.T))) = some x := h
      split at h
      · rename_i y z hy hz
        injection h with h
        subst h
        simp only [RepL] at hr
        obtain ⟨u, us', rfl, hu, hr⟩ := hr
        have hown : ownC (.row e t :: q :: r) (c :: cs) = rowsC c ++ ownC (q :: r) cs := rfl
        rw [hown] at ho hn
        obtain ⟨_, hn2, hn3⟩ := noDup_app hn
        obtain ⟨Γ1, b1, E1, hv1⟩ := b.rowDec M1 (c := c) (m := m) (Γ := Γ) (fun i hi => fix_row (ho i (List.mem_append_left _ hi)).2) rfl hy hu (fun i hi => (ho i (List.mem_append_left _ hi)).1)
        obtain ⟨Γ2, b2, E2, hv2⟩ := sc_step (q :: r) hz hr b1 hn2 (fun i hi => ⟨fun h => by
          rcases List.mem_append.1 h with h | h
          · exact hn3 i h hi
          · exact (ho i (List.mem_append_right _ hi)).1 h, (ho i (List.mem_append_right _ hi)).2⟩) (fun i hi => hf i hi)
        refine ⟨Γ2, b2.weak (fun i hi => ?_) (by rw [List.length_cons, List.length_cons, List.length_cons]; omega), E1.trans E2, ?_⟩
        · rw [hown]
          rcases List.mem_append.1 hi with hi | hi
          · exact List.mem_append_left _ (List.mem_append_right _ hi)
          · rcases List.mem_append.1 hi with hi | hi
            · exact List.mem_append_left _ (List.mem_append_left _ hi)
            · exact List.mem_append_right _ hi
        · show RepL Γ2 (.row base e (lenL (α := e.T) y) :: scAv (base + 1) (q :: r) z) (u :: us')
          simp only [RepL]
          exact ⟨u, us', rfl, hv1.ext E2, hv2⟩
      · cases h

omit M M1 L in
theorem scMem_box : ∀ (l : List SC) (base id : Nat) (x : prodT (l.map SC.T)) (mk : Mem) (a : BoxA), scMem base l x { mk with box := upd mk.box id (some a) } = { scMem base l x mk with box := upd (scMem base l x mk).box id (some a) }
  | [], _, _, _, _, _ => rfl
  | [.d _], _, _, _, _, _ => rfl
  | [.row _ _], _, _, _, _, _ => rfl
  | .d _ :: q :: r, base, id, x, mk, a => scMem_box (q :: r) (base + 1) id x.2 mk a
  | .row e t :: q :: r, base, id, x, mk, a => scMem_box (q :: r) (base + 1) id x.2 { mk with row := upd mk.row base (some ⟨e, x.1, t, .own⟩) } a
omit M M1 L in
theorem scMem_new : ∀ (l : List SC) (base id : Nat) (x : prodT (l.map SC.T)) (mk : Mem), id < base → mk.new id = true → (scMem base l x mk).new id = true
  | [], _, _, _, _, _, h => h
  | [.d _], _, _, _, _, _, h => h
  | [.row _ _], _, _, _, _, hl, h => new_updRow h (by omega)
  | .d _ :: q :: r, base, id, x, mk, hl, h => scMem_new (q :: r) (base + 1) id x.2 mk (by omega) h
  | .row e t :: q :: r, base, id, x, mk, hl, h => scMem_new (q :: r) (base + 1) id x.2 _ (by omega) (new_updRow h (by omega))

omit M1 M in
theorem kp_step {κ : Kd} {cs : List AV} {u : Value} {x : κ.T} {base : Nat} {Γk : Gh} {mk : Mem} {own : List Nat} (hd : (Sh.kp κ).dec m (.kptr cs) = some x) (hu : RepV Γ (.kptr cs) u) (b : Bld B w0 { Γ with R := R1 } (m.fix fx) own base Γk mk) :
    ∃ Γk', Bld B w0 { Γ with R := R1 } (m.fix fx) ([] ++ own) (base + 64) Γk' mk ∧ Ext B Γk Γk' ∧ RepV Γk' (.kptr (κ.cells x)) u := by
  replace hd : (match Kd.dec κ cs with
    | some (x, []) => some x
    | _ => none : Option κ.T) = some x := hd
  split at hd
  · rename_i y hy
    injection hd with hd
    subst hd
    refine ⟨Γk, b.weak (fun j hj => List.mem_append_right _ hj) (by omega), Ext.refl B Γk, ?_⟩
    simp only [RepV] at hu
    obtain ⟨ad, us, rfl, hR, hpu, hl, hc⟩ := hu
    obtain ⟨u1, ws, e, h2, h3⟩ := dec_rep hy hl
    simp only [RepL] at h3
    subst h3
    rw [List.append_nil] at e
    subst e
    have h4 : RepT Γk.w Γk.R κ y us := by
      rw [b.w, b.R]
      exact h2.mono (fun _ _ => rfl) L.R
    simp only [RepV]
    refine ⟨ad, us, rfl, by rw [b.R]; exact L.R _ hR, cells_pure κ y, h4.cells, fun j w hj => by rw [b.w]; exact hc j w hj⟩
  · cases hd
theorem box_step {l : List SC} {id : Nat} {u : Value} {x : prodT (l.map SC.T)} {base : Nat} {Γk : Gh} {mk : Mem} {own : List Nat} (hd : (Sh.box l).dec m (.ptr id 0) = some x) (hu : RepV Γ (.ptr id 0) u) (b : Bld B w0 { Γ with R := R1 } (m.fix fx) own base Γk mk)
    (hn : noDup ((Sh.box l).own m (.ptr id 0)) = true) (ho : ∀ i ∈ (Sh.box l).own m (.ptr id 0), i ∉ own ∧ i ∉ fx) (hf : ∀ i ∈ (Sh.box l).fix m (.ptr id 0), i ∈ fx) (hp : cutOk'.noPtrD (.box l) (.ptr id 0) = true) :
    ∃ Γk', Bld B w0 { Γ with R := R1 } (m.fix fx) ((Sh.box l).own m (.ptr id 0) ++ own) (base + 64) Γk' ((Sh.box l).mem base x mk) ∧ Ext B Γk Γk' ∧ RepV Γk' ((Sh.box l).av base x) u := by
  replace hd : (match m.box id with
    | some ⟨cs, false⟩ => scDec m l cs
    | _ => none : Option (prodT (l.map SC.T))) = some x := hd
  split at hd
  · rename_i cs hb
    simp only [RepV] at hu
    obtain ⟨blk, hμ, rfl⟩ := hu
    have hbr := M.boxAt hμ hb
    obtain ⟨us, ty, hcell, hcs⟩ := hbr.cells
    have hown : (Sh.box l).own m (.ptr id 0) = id :: ownC l cs := by simp [Sh.own, hb]
    have hfix : (Sh.box l).fix m (.ptr id 0) = fixC l cs := by simp [Sh.fix, hb]
    rw [hown] at hn ho
    rw [hfix] at hf
    have hnd : noDup ([id] ++ ownC l cs) = true := hn
    obtain ⟨_, hn2, hn3⟩ := noDup_app hnd
    obtain ⟨Γ2, b2, E2, hv2⟩ := sc_step M M1 L l (base := base + 1) hd hcs (b.weak (fun _ h => h) (Nat.le_succ _)) hn2 (fun i hi => ho i (List.mem_cons_of_mem _ hi)) hf
    have hnew : (scMem (base + 1) l x mk).new base = true := scMem_new l (base + 1) base x mk (by omega) (b.fresh base (Nat.le_refl _))
    have hnR : ¬ R1 blk := by
      have hbr1 := M1.boxAt (i := id) hμ (by rw [fix_boxes]; exact hb)
      rcases hbr1.fix with ⟨h, _⟩ | ⟨_, h⟩
      · cases h
      · exact h
    have hF : Free Γ2 (scMem (base + 1) l x mk) blk := by
      refine ⟨by rw [b2.R]; exact hnR, fun i hi => ?_, fun i w hw hl hg => ?_⟩
      · obtain ⟨j, hj, hj2⟩ := b2.μ i blk hi
        have e := M1.bb id j blk hμ hj2
        subst e
        rcases List.mem_append.1 hj with hj | hj
        · exact hn3 id (by simp) hj
        · exact (ho id List.mem_cons_self).1 hj
      · rcases b2.ν i w hw with h | ⟨j, hj, hjl, hjν⟩
        · rw [h] at hg; cases hg
        · exact M1.rb j id w blk hjν hg hjl hμ
    have hB : B ≤ blk := hbr.base
    obtain ⟨M3, E3⟩ := b2.rel.addBoxAt hnew (cs := scAv (base + 1) l x) (us := us) (ty := ty) (by rw [b2.w]; exact hcell) hB hv2 hF
    have hmem : (Sh.box l).mem base x mk = { scMem (base + 1) l x mk with box := upd (scMem (base + 1) l x mk).box base (some ⟨scAv (base + 1) l x, false⟩) } := scMem_box l (base + 1) base x mk _
    have hlen : l.length ≤ 60 := Nat.le_of_ble_eq_true hp
    rw [hmem, hown]
    refine ⟨_, ⟨M3, b2.w, b2.R, fun i c hi => ?_, fun i w hw => ?_, fun i hi => new_updBox (b2.fresh i (by omega)) (by omega)⟩, E2.trans E3, ?_⟩
    · have hi' : upd Γ2.μ base (some blk) i = some c := hi
      by_cases e' : i = base
      · subst e'
        rw [upd_same] at hi'
        injection hi' with hi'
        subst hi'
        exact ⟨id, List.mem_cons_self, hμ⟩
      · rw [upd_other _ _ e'] at hi'
        obtain ⟨j, hj, k⟩ := b2.μ i c hi'
        exact ⟨j, List.mem_cons_of_mem _ hj, k⟩
    · exact (b2.ν i w hw).imp (fun h => h) fun ⟨j, hj, k⟩ => ⟨j, List.mem_cons_of_mem _ hj, k⟩
    · simp only [Sh.av, RepV]
      exact ⟨blk, upd_same _ _ _, rfl⟩
  · cases hd
omit M1 M in
theorem fn_step {f g : Nat} {la lb : List SP} {a c : List AV} {u : Value} {x : prodT (la.map SP.T) × prodT (lb.map SP.T)} {base : Nat} {Γk : Gh} {mk : Mem} {own : List Nat} (hd : (Sh.fn f la lb).dec m (.fn g a c) = some x) (hu : RepV Γ (.fn g a c) u) (b : Bld B w0 { Γ with R := R1 } (m.fix fx) own base Γk mk) :
    ∃ Γk', Bld B w0 { Γ with R := R1 } (m.fix fx) ([] ++ own) (base + 64) Γk' mk ∧ Ext B Γk Γk' ∧ RepV Γk' (.fn f (spAv la x.1) (spAv lb x.2)) u := by
  replace hd : cond (Nat.beq f g) (match spDec la a, spDec lb c with
    | some x, some y => some (x, y)
    | _, _ => none) (none : Option (prodT (la.map SP.T) × prodT (lb.map SP.T))) = some x := hd
  obtain ⟨hg, hd2⟩ := cond_some hd
  clear hd
  have := Nat.eq_of_beq_eq_true hg
  subst this
  split at hd2
  · rename_i y z hy hz
    injection hd2 with hd2
    subst hd2
    simp only [RepV] at hu
    obtain ⟨us, vs, rfl, h1, h2⟩ := hu
    have key : ∀ (p : SP) (v : AV) (u : Value) (x : p.T), p.dec v = some x → RepV Γ v u → RepV Γk (p.av x) u := by
      intro p v u x hp hv
      cases p with
      | d κ =>
        simp only [SP.dec] at hp
        have h2 := decV_rep hp hv
        have h3 := decV_av hp hv
        show RepV Γk (κ.av x) u
        cases κ with
        | pair a c =>
          simp only [Kd.av, RepV] at h3 ⊢
          obtain ⟨vs, rfl, _⟩ := h3
          have h4 : RepT Γk.w Γk.R (.pair a c) x vs := by
            rw [b.w, b.R]
            exact RepT.mono (fun _ _ => rfl) L.R (by simpa [Value.cells] using h2)
          exact ⟨vs, rfl, h4.cells⟩
        | sl e =>
          simp only [Kd.av, RepV] at h3 ⊢
          rw [b.w, b.R]
          exact h3.mono (fun _ _ => rfl) L.R
        | _ => simpa only [Kd.av, RepV] using h3
      | kp κ =>
        cases v <;> simp only [SP.dec] at hp <;> try (cases hp; done)
        rename_i cs
        split at hp
        · rename_i y hy
          injection hp with hp
          subst hp
          simp only [RepV] at hv
          obtain ⟨ad, us, rfl, hR, hpu, hl, hc⟩ := hv
          obtain ⟨u1, ws, e, h2, h3⟩ := dec_rep hy hl
          simp only [RepL] at h3
          subst h3
          rw [List.append_nil] at e
          subst e
          have h4 : RepT Γk.w Γk.R κ y us := by
            rw [b.w, b.R]
            exact h2.mono (fun _ _ => rfl) L.R
          simp only [SP.av, RepV]
          refine ⟨ad, us, rfl, by rw [b.R]; exact L.R _ hR, cells_pure κ y, h4.cells, fun j w hj => by rw [b.w]; exact hc j w hj⟩
        · cases hp
    have keys : ∀ (l : List SP) (cs : List AV) (us : List Value) (x : prodT (l.map SP.T)), spDec l cs = some x → RepL Γ cs us → RepL Γk (spAv l x) us := by
      intro l
      induction l with
      | nil =>
        intro cs us x hx hr
        cases cs with
        | nil => simpa only [spAv, RepL] using hr
        | cons c cs => exact absurd (show (none : Option Unit) = some x from hx) (by simp)
      | cons p l ih =>
        intro cs us x hx hr
        cases l with
        | nil =>
          cases cs with
          | nil => exact absurd (show (none : Option p.T) = some x from hx) (by simp)
          | cons c cs =>
            cases cs with
            | cons c' cs => exact absurd (show (none : Option p.T) = some x from hx) (by simp)
            | nil =>
              replace hx : p.dec c = some x := hx
              obtain ⟨u, rfl, hu⟩ := RepL.one.1 hr
              exact RepL.one.2 ⟨u, rfl, key p c u x hx hu⟩
        | cons q l =>
          cases cs with
          | nil => exact absurd (show (none : Option (p.T × prodT ((q :: l).map SP.T))) = some x from hx) (by simp)
          | cons c cs =>
            replace hx : (match p.dec c, spDec (q :: l) cs with
              | some x, some y => some (x, y)
              | _, _ => none : Option (p.T × prodT ((q :: l).map SP.T))) = some x := hx
            split at hx
            · rename_i y z hy hz
              injection hx with hx
              subst hx
              simp only [RepL] at hr
              obtain ⟨u, us', rfl, hu, hr⟩ := hr
              show RepL Γk (p.av y :: spAv (q :: l) z) (u :: us')
              simp only [RepL]
              exact ⟨u, us', rfl, key p c u y hy hu, ih cs us' z hz hr⟩
            · cases hx
    refine ⟨Γk, b.weak (fun j hj => List.mem_append_right _ hj) (by omega), Ext.refl B Γk, ?_⟩
    show RepV Γk (.fn f (spAv la y) (spAv lb z)) _
    simp only [RepV]
    exact ⟨us, vs, rfl, keys la a us y hy h1, keys lb c vs z hz h2⟩
  · cases hd2
/-- One value that goes through a cut. -/
theorem sh_step {h : Sh} {v : AV} {u : Value} {x : h.T} {base : Nat} {Γk : Gh} {mk : Mem} {own : List Nat} (hd : h.dec m v = some x) (hu : RepV Γ v u) (b : Bld B w0 { Γ with R := R1 } (m.fix fx) own base Γk mk)
    (hn : noDup (h.own m v) = true) (ho : ∀ i ∈ h.own m v, i ∉ own ∧ i ∉ fx) (hf : ∀ i ∈ h.fix m v, i ∈ fx) (hp : cutOk'.noPtrD h v = true) :
    ∃ Γk', Bld B w0 { Γ with R := R1 } (m.fix fx) (h.own m v ++ own) (base + 64) Γk' (h.mem base x mk) ∧ Ext B Γk Γk' ∧ RepV Γk' (h.av base x) u := by
  cases h with
  | d κ =>
    replace hd : decV κ (lendP m v) = some x := hd
    have hpp : ptrsP v = [] := ptrsP_none (by have hp' : (!(isPtr v)) = true := hp; simpa using hp')
    have h1 := lendP_rep M (L.mono hf (by rw [hpp]; simp)) hu
    refine ⟨Γk, b.weak (fun j hj => List.mem_append_right _ hj) (by omega), Ext.refl B Γk, ?_⟩
    have h2 := decV_rep hd h1
    have h3 := decV_av hd h1
    -- the same in the ghosts built anew
    show RepV Γk (κ.av x) u
    cases κ with
    | pair a c =>
      simp only [Kd.av, RepV] at h3 ⊢
      obtain ⟨vs, rfl, _⟩ := h3
      have h4 : RepT Γk.w Γk.R (.pair a c) x vs := by
        rw [b.w, b.R]
        simpa [Value.cells] using h2
      exact ⟨vs, rfl, h4.cells⟩
    | sl e =>
      simp only [Kd.av, RepV] at h3 ⊢
      rw [b.w, b.R]
      exact h3
    | _ => simpa only [Kd.av, RepV] using h3
  | kp κ =>
    cases v
    case kptr cs => exact kp_step L hd hu b
    all_goals exact absurd (show (none : Option κ.T) = some x from hd) (by simp)
  | row e t =>
    replace hd : rowDec m e t v = some x := hd
    obtain ⟨Γk', b', E, hv⟩ := b.rowDec M1 (c := v) (m := m) (Γ := Γ) (fun i hi => fix_row (ho i hi).2) rfl hd hu (fun i hi => (ho i hi).1)
    exact ⟨Γk', b'.weak (fun _ h => h) (by omega), E, hv⟩
  | box l =>
    cases v
    case ptr id off =>
      cases off with
      | succ n => exact absurd (show (none : Option (prodT (l.map SC.T))) = some x from hd) (by simp)
      | zero => exact box_step M M1 L hd hu b hn ho hf hp
    all_goals exact absurd (show (none : Option (prodT (l.map SC.T))) = some x from hd) (by simp)
  | fn f la lb =>
    cases v
    case fn g a c => exact fn_step L hd hu b
    all_goals exact absurd (show (none : Option (prodT (la.map SP.T) × prodT (lb.map SP.T))) = some x from hd) (by simp)

theorem cut_step : ∀ (c : Cut) {s s' : St} {x : c.T} {base : Nat} {Γk : Gh} {own : List Nat} {tv : Nat → Value}, s.m = m → cutDec s c = some x → (∀ i, RepV Γ (s.tm i) (tv i)) → Bld B w0 { Γ with R := R1 } (m.fix fx) own base Γk s'.m → (∀ i, RepV Γk (s'.tm i) (tv i)) →
    noDup (c.flatMap fun p => p.2.own m (s.tm p.1)) = true → (∀ i ∈ (c.flatMap fun p => p.2.own m (s.tm p.1)), i ∉ own ∧ i ∉ fx) → (∀ i ∈ (c.flatMap fun p => p.2.fix m (s.tm p.1)), i ∈ fx) → (c.all fun p => cutOk'.noPtrD p.2 (s.tm p.1)) = true →
    ∃ own' base' Γk', Bld B w0 { Γ with R := R1 } (m.fix fx) own' base' Γk' (cutEnc base c x s').m ∧ ∀ i, RepV Γk' ((cutEnc base c x s').tm i) (tv i)
  | [], s, s', x, base, Γk, own, tv, hm, h, ht, b, ht', hn, ho, hf, hp => ⟨own, base, Γk, b, ht'⟩
  | [(j, sh)], s, s', x, base, Γk, own, tv, hm, h, ht, b, ht', hn, ho, hf, hp => by
    replace h : sh.dec s.m (s.tm j) = some x := h
    rw [hm] at h
    simp only [List.flatMap_cons, List.flatMap_nil, List.append_nil, List.all_cons, List.all_nil, Bool.and_true] at hn ho hf hp
    obtain ⟨Γk', b', E, hv⟩ := sh_step M M1 L h (ht j) b hn ho hf hp
    refine ⟨_, _, Γk', b', fun i => ?_⟩
    show RepV Γk' (upd s'.tm j (sh.av base x) i) (tv i)
    rw [upd_eq]
    split
    · rename_i e; subst e; exact hv
    · exact (ht' i).ext E
  | (j, sh) :: q :: r, s, s', x, base, Γk, own, tv, hm, h, ht, b, ht', hn, ho, hf, hp => by
    replace h : (match sh.dec s.m (s.tm j), cutDec s (q :: r) with
      | some x, some y => some (x, y)
      | _, _ => none : Option (sh.T × Cut.T (q :: r))) = some x := h
    split at h
    · rename_i y z hy hz
      injection h with h
      subst h
      rw [hm] at hy
      rw [List.flatMap_cons] at hn ho hf
      rw [List.all_cons, Bool.and_eq_true] at hp
      obtain ⟨hn1, hn2, hn3⟩ := noDup_app hn
      obtain ⟨Γ1, b1, E1, hv1⟩ := sh_step M M1 L hy (ht j) b hn1 (fun i hi => ho i (List.mem_append_left _ hi)) (fun i hi => hf i (List.mem_append_left _ hi)) hp.1
      exact cut_step (q :: r) (s := s) (s' := ⟨upd s'.tm j (sh.av base y), sh.mem base y s'.m⟩) (x := z) hm hz ht b1 (fun i => by
        show RepV Γ1 (upd s'.tm j (sh.av base y) i) (tv i)
        rw [upd_eq]
        split
        · rename_i e; subst e; exact hv1
        · exact (ht' i).ext E1) hn2 (fun i hi => ⟨fun h => by
          rcases List.mem_append.1 h with h | h
          · exact hn3 i h hi
          · exact (ho i (List.mem_append_right _ hi)).1 h, (ho i (List.mem_append_right _ hi)).2⟩) (fun i hi => hf i (List.mem_append_right _ hi)) hp.2
    · cases h
end

/-- Nothing of its own is told to whoever begins. -/
structure Bare (Γ0 : Gh) : Prop where
  μ : ∀ i, Γ0.μ i = none
  ν : ∀ i, Γ0.ν i = none
  η : ∀ i, Γ0.η i = none
theorem cut_inv {B : Nat} {w0 : World} {Γ0 : Gh} {n : Nat} (h0 : Bare Γ0) {ρ : Type} {c : Cut} {s : St} {a : Act} {w : World} {k : c.T → Option ρ} {r : ρ} (h : decS c s k = some r) (I : Inv B w0 Γ0 n s a w) : ∃ x, k x = some r ∧ Inv B w0 Γ0 n (encS c x) a w := by
  unfold decS at h
  obtain ⟨hok, h2⟩ := cond_some h
  clear h
  split at h2
  · rename_i x hx
    refine ⟨x, h2, ?_⟩
    obtain ⟨⟨Γ, rfl, E0, M, hr⟩, hd, hs⟩ := I
    unfold cutOk' at hok
    simp only [Bool.and_eq_true] at hok
    obtain ⟨⟨⟨hn, hfo⟩, hp⟩, _⟩ := hok
    obtain ⟨R1, M1, E1, hR⟩ := M.fixL (c.flatMap fun p => p.2.fix s.m (s.tm p.1))
    have L : Lends Γ { Γ with R := R1 } s.m (c.flatMap fun p => p.2.fix s.m (s.tm p.1)) [] :=
      ⟨rfl, fun b hb => (hR b).2 (.inl hb), fun b hb => (hR b).2 (.inr hb), fun i hi => by cases hi⟩
    have b0 : Bld B w0 { Γ with R := R1 } (s.m.fix (c.flatMap fun p => p.2.fix s.m (s.tm p.1))) [] 0 ⟨Γ.w, R1, fun _ => none, fun _ => none, fun _ => none⟩ { Mem.clear with ep := c.length + 1 } := by
      refine ⟨⟨M1.below, M1.base, M1.rlt, fun i b h => (by cases h), fun i b h => (by cases h), fun i j b h => (by cases h), fun i j u v g h => (by cases h), fun i j u g h => (by cases h), fun i b h => (by cases h)⟩, rfl, rfl, fun i b h => (by cases h), fun i b h => (by cases h), fun i _ => rfl⟩
    obtain ⟨own', base', Γk', b', ht⟩ := cut_step M M1 L c (s := s) (s' := ⟨fun _ => .dead, { Mem.clear with ep := c.length + 1 }⟩) (tv := fun i => a.tmps.getD i undef) rfl hx hr b0 (fun i => by simp only [RepV]) hn
      (fun i hi => ⟨by simp, fun hif => by
        have := List.all_eq_true.1 (List.all_eq_true.1 hfo i hif) i hi
        rw [Nat.beq_refl] at this
        cases this⟩) (fun i hi => hi) hp
    have E01 := E0.trans E1
    refine ⟨⟨Γk', b'.w, ⟨fun b hb => ?_, fun b hb => ?_, fun i b hi => ?_, fun i b hi => ?_, fun i b hi => ?_, fun b hb => ?_⟩, b'.rel, ht⟩, hd, hs⟩
    · rw [b'.R]; exact E01.R b hb
    · rw [b'.w]; exact E01.heap b hb
    · rw [h0.μ] at hi; cases hi
    · rw [h0.ν] at hi; cases hi
    · rw [h0.η] at hi; cases hi
    · rw [b'.R] at hb; exact E01.new b hb
  · cases h2
end Go.Proofs.Ytebokfdiamepcaa.AM
