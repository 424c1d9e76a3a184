/- The abstract machine, 22: a region, in whatever order. -/
import Derived.Test.YtebokfdiamepcaaAe
set_option linter.unusedVariables false
set_option linter.unusedSimpArgs false
namespace Go.Proofs.Ytebokfdiamepcaa.AM
open Go.RowKit

/-- A state says an activation and a world. -/
structure Inv (B : Nat) (w0 : World) (Γ0 : Gh) (n : Nat) (s : St) (a : Act) (w : World) : Prop where
  ex : ∃ Γ : Gh, Γ.w = w ∧ Ext B Γ0 Γ ∧ MemRel B w0 Γ s.m ∧ ∀ i, RepV Γ (s.tm i) (a.tmps.getD i undef)
  defers : a.defers = []
  size : a.tmps.size = n

theorem MemRel.mem {B : Nat} {w0 : World} {Γ : Gh} {m m' : Mem} (M : MemRel B w0 Γ m) (hb : m'.box = m.box) (hr : m'.row = m.row) : MemRel B w0 Γ m' := by
  have hl : ∀ i, m'.live i ↔ m.live i := fun i => by unfold Mem.live; rw [hr]
  exact ⟨M.below, M.base, M.rlt, fun i b h => by rw [hb]; exact M.box i b h, fun i v h => by rw [hr]; exact M.row i v h, M.bb,
    fun i j u v g h1 h2 h3 h4 h5 h6 => M.rr i j u v g h1 h2 h3 h4 ((hl i).1 h5) ((hl j).1 h6), fun i j u g h1 h2 h3 => M.rb i j u g h1 h2 ((hl i).1 h3), M.map⟩
theorem Inv.tick {B : Nat} {w0 : World} {Γ0 : Gh} {n : Nat} {s : St} {a : Act} {w : World} (h : Inv B w0 Γ0 n s a w) : Inv B w0 Γ0 n s.tick a w := by
  obtain ⟨⟨Γ, h1, h2, h3, h4⟩, h5, h6⟩ := h
  exact ⟨⟨Γ, h1, h2, h3.mem rfl rfl, h4⟩, h5, h6⟩
theorem Inv.drew {B : Nat} {w0 : World} {Γ0 : Gh} {n : Nat} {s : St} {a : Act} {w : World} (h : Inv B w0 Γ0 n s a w) : Inv B w0 Γ0 n s a { w with drawn := w.drawn + 1 } := by
  obtain ⟨⟨Γ, rfl, h2, h3, h4⟩, h5, h6⟩ := h
  obtain ⟨M, E⟩ := h3.grow (w' := { Γ.w with drawn := Γ.w.drawn + 1 }) ⟨rfl, rfl, rfl, Nat.le_refl _, fun _ _ _ => rfl⟩
  exact ⟨⟨_, rfl, h2.trans E, M, fun i => (h4 i).ext E⟩, h5, h6⟩

theorem getD_put {a : Act} {d : Nat} {u : Value} (h : d < a.tmps.size) (i : Nat) : (a.put (some d) u).tmps.getD i undef = if i = d then u else a.tmps.getD i undef := by
  simp only [Act.put, Array.getD_eq_getD_getElem?, Array.getElem?_setIfInBounds]
  by_cases e : d = i
  · subst e; simp [h]
  · rw [if_neg e, if_neg (Ne.symm e)]
theorem put_defers' (a : Act) (d : Option Nat) (u : Value) : (a.put d u).defers = a.defers := by cases d <;> rfl
theorem put_size' (a : Act) (d : Option Nat) (u : Value) : (a.put d u).tmps.size = a.tmps.size := by cases d <;> simp [Act.put]

def dstOk (n : Nat) (o : Oper) : Bool := match o.dst with
  | some d => Nat.blt d n
  | none => true
theorem dstOk_lt {n : Nat} {o : Oper} (h : dstOk n o = true) {d : Nat} (hd : o.dst = some d) : d < n := by
  unfold dstOk at h
  rw [hd] at h
  simp only [Nat.blt, Nat.ble_eq] at h
  omega
theorem rep_put {Γ : Gh} {s : St} {a : Act} {o : Oper} (h : ∀ i, RepV Γ (s.tm i) (a.tmps.getD i undef)) (hd : dstOk a.tmps.size o = true) {v : AV} {u : Value} (hv : RepV Γ v u) (m : Mem) : ∀ i, RepV Γ ((s.put o.dst v m).tm i) ((a.put o.dst u).tmps.getD i undef) := by
  intro i
  rw [put_tm]
  cases ho : o.dst with
  | none => simpa [Act.put] using h i
  | some d =>
    rw [getD_put (dstOk_lt hd ho)]
    by_cases e : i = d
    · subst e; simpa using hv
    · rw [if_neg e, if_neg (fun e' => e (Option.some.inj e').symm)]
      exact h i

section
variable {P : Program} {tb : Tb} (HT : TbOk P tb) {cl : ∀ ρ, CallT ρ} (hcl : CallB cl) (hcc : CallC cl) (hok : CallOk P cl) {B : Nat} {w0 : World} {Γ0 : Gh} {n : Nat} {ops : Array Oper} {Q : Exit → Act → World → Prop}

theorem gst_wanted {Γ : Gh} {s : St} {a : Act} (h : ∀ i, RepV Γ (s.tm i) (a.tmps.getD i undef)) {o : Oper} {b : Bool} (hg : gst ops o s = some b) : Region.wanted o (yielded ops a.tmps) = b := by
  unfold gst at hg
  unfold Region.wanted
  cases ho : o.guard with
  | none => rw [ho] at hg; injection hg
  | some jw =>
    obtain ⟨j, want⟩ := jw
    rw [ho] at hg
    simp only at hg ⊢
    cases hd : gdst ops j with
    | none => rw [hd] at hg; cases hg
    | some d =>
      rw [hd] at hg
      simp only at hg
      have hr := h d
      unfold yielded
      rw [← gdst_eq, hd]
      simp only [Option.bind_some]
      split at hg
      · rename_i c hc
        rw [hc] at hr
        simp only [RepV] at hr
        injection hg with hg
        subst hg
        rw [Array.getD_eq_getD_getElem?] at hr
        cases ht : a.tmps[d]? with
        | none => rw [ht] at hr; simp [undef] at hr
        | some u =>
          rw [ht] at hr
          simp only [Option.getD_some] at hr
          subst hr
          cases c <;> cases want <;> rfl
      · rename_i hc
        rw [hc] at hr
        simp only [RepV, RepL] at hr
        obtain ⟨vs, hr, rfl⟩ := hr
        injection hg with hg
        subst hg
        rw [Array.getD_eq_getD_getElem?] at hr
        cases ht : a.tmps[d]? with
        | none => rfl
        | some u =>
          rw [ht] at hr
          simp only [Option.getD_some] at hr
          subst hr
          rfl
      · cases hg

include HT hok in
theorem step_wp {i : Nat} {o : Oper} (hi : ops[i]? = some o) (hd : dstOk n o = true) {s s' : St} (hs : stepD cl tb ops o s = some s') {a : Act} {w : World} (I : Inv B w0 Γ0 n s a w) {K : Act → World → Prop} (hK : ∀ a' w', Inv B w0 Γ0 n s' a' w' → K a' w') : wpOp P ops Q i K a w := by
  obtain ⟨⟨Γ, rfl, E0, M, hr⟩, hdf, hsz⟩ := I
  rw [stepD_eq] at hs
  unfold wpOp
  simp only [hi]
  cases hg : gst ops o s with
  | none => rw [hg] at hs; cases hs
  | some b =>
    rw [hg] at hs
    rw [gst_wanted hr hg]
    cases b with
    | true =>
      simp only [if_true]
      cases ho : opD cl tb o s.ev s.m with
      | none => rw [ho] at hs; cases hs
      | some p =>
        obtain ⟨v, m'⟩ := p
        rw [ho] at hs
        simp only [Option.map_some, Option.some.injEq] at hs
        subst hs
        refine .inl (op_wp HT hok M (ev_rep hr) ho fun Γ' u E M' hv => hK _ _ ⟨⟨Γ', rfl, E0.trans E, by rw [put_m]; exact M', rep_put (fun i => (hr i).ext E) (by rw [hsz]; exact hd) hv m'⟩, by rw [put_defers']; exact hdf, by rw [put_size']; exact hsz⟩)
    | false =>
      simp only [Option.some.injEq] at hs
      subst hs
      simp only [Bool.false_eq_true, if_false]
      exact hK _ _ ⟨⟨Γ, rfl, E0, by rw [put_m]; exact M, rep_put hr (by rw [hsz]; exact hd) (by simp only [RepV]; exact ⟨[], rfl, by simp only [RepL]⟩) s.m⟩, by rw [put_defers']; exact hdf, by rw [put_size']; exact hsz⟩

/-! ### Lists of numbers of operations -/
def runI (cl : ∀ ρ, CallT ρ) (tb : Tb) (ops : Array Oper) : List Nat → St → Option St
  | [], s => some s
  | i :: r, s => match ops[i]? with
    | some o => (stepD cl tb ops o s).bind (runI cl tb ops r)
    | none => none
theorem runD_runI : ∀ (l : List Oper) (k : Nat) (s : St), (∀ i, i < l.length → ops[k + i]? = l[i]?) → runD cl tb ops l s = runI cl tb ops (List.range' k l.length) s
  | [], k, s, _ => rfl
  | o :: r, k, s, h => by
    have h0 := h 0 (by simp)
    simp only [Nat.add_zero, List.getElem?_cons_zero] at h0
    simp only [List.length_cons, List.range'_succ, runD, runI, h0]
    cases stepD cl tb ops o s with
    | none => rfl
    | some s' =>
      have h' : ∀ i, i < r.length → ops[k + 1 + i]? = r[i]? := by
        intro i hi
        have := h (i + 1) (by simpa using hi)
        rw [show k + 1 + i = k + (i + 1) by omega]
        simpa using this
      exact runD_runI r (k + 1) s' h'
theorem runD_range (s : St) : runD cl tb ops ops.toList s = runI cl tb ops (List.range ops.size) s := by
  rw [runD_runI ops.toList 0 s fun i hi => by rw [Nat.zero_add, Array.getElem?_toList], List.range_eq_range', Array.length_toList]

include HT hok in
theorem runI_wp (hd : ∀ (i : Nat) (o : Oper), ops[i]? = some o → dstOk n o = true) : ∀ (l : List Nat) {s sf : St}, runI cl tb ops l s = some sf → ∀ {a : Act} {w : World}, Inv B w0 Γ0 n s a w → (∀ a' w', Inv B w0 Γ0 n sf a' w' → Q .normal a' w') → wpOps P ops Q l a w
  | [], s, sf, h, a, w, I, hQ => by
    simp only [runI, Option.some.injEq] at h
    subst h
    exact hQ a w I
  | i :: r, s, sf, h, a, w, I, hQ => by
    rw [wpOps_cons]
    simp only [runI] at h
    cases hi : ops[i]? with
    | none => rw [hi] at h; cases h
    | some o =>
      rw [hi] at h
      simp only at h
      cases hs : stepD cl tb ops o s with
      | none => rw [hs] at h; cases h
      | some s' =>
        rw [hs] at h
        exact step_wp HT hok hi (hd i o hi) hs I fun a' w' I' => runI_wp hd r h I' hQ

/-- Two operations that may come in either order. -/
def swapB (tb : Tb) (ops : Array Oper) (x y : Oper) : Bool := mayB (cls tb x) (cls tb y) && x.apart ops y
def Swap (tb : Tb) (ops : Array Oper) (j i : Nat) : Prop := ∃ x y, ops[j]? = some x ∧ ops[i]? = some y ∧ swapB tb ops x y = true
include hcl hcc in
theorem pull {i : Nat} {y : Oper} (hi : ops[i]? = some y) {q : List Nat} : ∀ (p : List Nat) {s sf : St}, (∀ j ∈ p, Swap tb ops j i) → runI cl tb ops (p ++ i :: q) s = some sf →
    ∃ s', stepD cl tb ops y s = some s' ∧ runI cl tb ops (p ++ q) s' = some sf
  | [], s, sf, _, h => by
    simp only [List.nil_append, runI, hi] at h
    cases hs : stepD cl tb ops y s with
    | none => rw [hs] at h; cases h
    | some s' => rw [hs] at h; exact ⟨s', rfl, h⟩
  | j :: p, s, sf, hp, h => by
    obtain ⟨x, y', hj, hi', hsw⟩ := hp j List.mem_cons_self
    rw [hi] at hi'
    injection hi' with hi'
    subst hi'
    simp only [List.cons_append, runI, hj] at h ⊢
    cases hs : stepD cl tb ops x s with
    | none => rw [hs] at h; cases h
    | some s1 =>
      rw [hs] at h
      obtain ⟨s2, h2, h3⟩ := pull hi p (fun k hk => hp k (List.mem_cons_of_mem _ hk)) h
      simp only [swapB, Bool.and_eq_true] at hsw
      obtain ⟨s', k1, k2⟩ := step_swap hcl hcc hsw.2 hsw.1 hs h2
      exact ⟨s', k1, by rw [k2]; exact h3⟩

/-! ### Who waits for whom -/
inductive Anc (ops : Array Oper) : Nat → Nat → Prop
  | one {i : Nat} {o : Oper} {e : Edge} : ops[i]? = some o → e ∈ o.after → Region.binds .any e = true → Anc ops e.on i
  | more {i j : Nat} {o : Oper} {e : Edge} : ops[i]? = some o → e ∈ o.after → Region.binds .any e = true → Anc ops j e.on → Anc ops j i
def Closed (ops : Array Oper) (listed : Array Bool) : Prop := ∀ (i : Nat) (o : Oper), ops[i]? = some o → listed.getD i false = true → ∀ e ∈ o.after, Region.binds .any e = true → listed.getD e.on false = true
theorem Closed.anc {listed : Array Bool} (h : Closed ops listed) {j i : Nat} (ha : Anc ops j i) : listed.getD i false = true → listed.getD j false = true := by
  induction ha with
  | one hi he hb => exact fun hl => h _ _ hi hl _ he hb
  | more hi he hb _ ih => exact fun hl => ih (h _ _ hi hl _ he hb)
theorem ready_anc {listed : Array Bool} (h : Closed ops listed) {j i : Nat} (hr : i ∈ Region.ready .any ops listed) (ha : Anc ops j i) : listed.getD j false = true := by
  obtain ⟨_, o, ho, hl⟩ := mem_ready.1 hr
  cases ha with
  | one hi he hb => rw [hi] at ho; injection ho with ho; subst ho; exact hl _ he hb
  | more hi he hb ha => rw [hi] at ho; injection ho with ho; subst ho; exact h.anc ha (hl _ he hb)

def rem (ops : Array Oper) (listed : Array Bool) : List Nat := (List.range ops.size).filter fun i => !listed.getD i true
theorem getD_false {listed : Array Bool} {i : Nat} (h : i < listed.size) : listed.getD i true = listed.getD i false := by
  simp [Array.getD, h]
structure OrdOk (tb : Tb) (ops : Array Oper) (n : Nat) : Prop where
  dst : ∀ (i : Nat) (o : Oper), ops[i]? = some o → dstOk n o = true
  back : ∀ (i : Nat) (o : Oper), ops[i]? = some o → ∀ e ∈ o.after, Region.binds .any e = true → e.on < i
  pair : ∀ i j, j < i → i < ops.size → Anc ops j i ∨ Swap tb ops j i

include HT hcl hcc hok in
theorem any_wp (hO : OrdOk tb ops n) : ∀ (fuel : Nat) (listed : Array Bool) {s sf : St} {a : Act} {w : World}, listed.size = ops.size → Closed ops listed → (rem ops listed).length = fuel → Inv B w0 Γ0 n s a w →
    runI cl tb ops (rem ops listed) s = some sf → (∀ a' w', Inv B w0 Γ0 n sf a' w' → Q .normal a' w') → wpAny P .any ops Q fuel listed a w
  | 0, listed, s, sf, a, w, hsz, hC, hlen, I, h, hQ => by
    have hnil := List.eq_nil_of_length_eq_zero hlen
    rw [hnil] at h
    simp only [runI, Option.some.injEq] at h
    subst h
    refine ⟨?_, hQ a w I⟩
    rw [List.eq_nil_iff_forall_not_mem]
    intro i hi
    obtain ⟨h0, o, ho, _⟩ := mem_ready.1 hi
    have hlt : i < ops.size := (Array.getElem?_eq_some_iff.1 ho).1
    have : i ∈ rem ops listed := by
      unfold rem
      rw [List.mem_filter, List.mem_range]
      exact ⟨hlt, by rw [h0]; rfl⟩
    rw [hnil] at this
    cases this
  | fuel + 1, listed, s, sf, a, w, hsz, hC, hlen, I, h, hQ => by
    have hmem : ∀ i, i ∈ rem ops listed ↔ i < ops.size ∧ listed.getD i true = false := by
      intro i
      unfold rem
      rw [List.mem_filter, List.mem_range]
      simp
    refine ⟨fun hnil => ?_, fun i hi => ?_⟩
    · exfalso
      cases hrem : rem ops listed with
      | nil => rw [hrem] at hlen; cases hlen
      | cons i r =>
        have him : i ∈ rem ops listed := by rw [hrem]; exact List.mem_cons_self
        obtain ⟨hlt, hl⟩ := (hmem i).1 him
        have hpw : (rem ops listed).Pairwise (· < ·) := List.Pairwise.sublist List.filter_sublist List.pairwise_lt_range
        rw [hrem] at hpw
        have hfirst := (List.pairwise_cons.1 hpw).1
        have hrdy : i ∈ Region.ready .any ops listed := by
          rw [mem_ready]
          refine ⟨hl, ops[i], Array.getElem?_eq_getElem hlt, fun e he hb => ?_⟩
          have hlt' := hO.back i _ (Array.getElem?_eq_getElem hlt) e he hb
          rw [← getD_false (by omega)]
          cases hq : listed.getD e.on true with
          | true => rfl
          | false =>
            have : e.on ∈ rem ops listed := (hmem _).2 ⟨by omega, hq⟩
            rw [hrem] at this
            rcases List.mem_cons.1 this with hq | hq
            · omega
            · have := hfirst _ hq; omega
        rw [hnil] at hrdy
        cases hrdy
    · obtain ⟨hl, o, ho, haft⟩ := mem_ready.1 hi
      have hlt : i < ops.size := (Array.getElem?_eq_some_iff.1 ho).1
      obtain ⟨p, q, hpq⟩ := List.append_of_mem ((hmem i).2 ⟨hlt, hl⟩)
      have hpw : (rem ops listed).Pairwise (· < ·) := List.Pairwise.sublist List.filter_sublist List.pairwise_lt_range
      rw [hpq, List.pairwise_append, List.pairwise_cons] at hpw
      obtain ⟨_, ⟨hiq, _⟩, hpi⟩ := hpw
      have hp : ∀ j ∈ p, Swap tb ops j i := by
        intro j hj
        have hji := hpi j hj i List.mem_cons_self
        rcases hO.pair i j hji hlt with ha | hs
        · exfalso
          have h1 := ready_anc hC hi ha
          have h2 := ((hmem j).1 (by rw [hpq]; exact List.mem_append_left _ hj)).2
          rw [getD_false (by omega), h1] at h2
          cases h2
        · exact hs
      rw [hpq] at h
      obtain ⟨s', hs', h'⟩ := pull hcl hcc ho p hp h
      have hrem' : rem ops (listed.setIfInBounds i true) = p ++ q := by
        have : rem ops (listed.setIfInBounds i true) = (rem ops listed).filter fun k => decide (k ≠ i) := by
          unfold rem
          rw [List.filter_filter]
          apply List.filter_congr
          intro k hk
          by_cases e : k = i
          · subst e
            have : (listed.setIfInBounds k true).getD k true = true := by
              simp [Array.getD, hsz, hlt]
            simp [this]
          · rw [getD_set_ne true (Ne.symm e)]
            simp [e]
        rw [this, hpq, List.filter_append, List.filter_cons_of_neg (by simp)]
        congr 1
        · rw [List.filter_eq_self]
          intro k hk
          have := hpi k hk i List.mem_cons_self
          simp
          omega
        · rw [List.filter_eq_self]
          intro k hk
          have := hiq k hk
          simp
          omega
      refine step_wp HT hok ho (hO.dst i o ho) hs' I fun a' w' I' => any_wp hO fuel _ (by simpa using hsz) (fun k ok hk hkl e he hb => ?_) ?_ I' (by rw [hrem']; exact h') hQ
      · by_cases e' : k = i
        · subst e'
          rw [ho] at hk
          injection hk with hk
          subst hk
          exact getD_set_true (haft e he hb)
        · rw [getD_set_ne false (Ne.symm e')] at hkl
          exact getD_set_true (hC k ok hk hkl e he hb)
      · rw [hrem']
        rw [hpq] at hlen
        simp at hlen ⊢
        omega

include HT hcl hcc hok in
theorem region_wp (hmix : P.follows .mixedOrders = true) (hO : OrdOk tb ops n) {id : Nat} {dr : Bool} {s sf : St} {a : Act} {w : World} (h : runD cl tb ops ops.toList s = some sf) (I : Inv B w0 Γ0 n s a w)
    (hQ : ∀ a' w', Inv B w0 Γ0 n sf a' w' → Q .normal a' w') : (Code.region id ops dr).wp P Q a w := by
  rw [runD_range] at h
  cases dr with
  | false => exact wp_region (runI_wp HT hok hO.dst _ h I hQ)
  | true =>
    have hrem : rem ops (Array.replicate ops.size false) = List.range ops.size := by
      unfold rem
      rw [List.filter_eq_self]
      intro i hi
      have := List.mem_range.1 hi
      simp [Array.getD, this]
    refine wp_region_any hmix (any_wp HT hcl hcc hok hO ops.size _ (by simp) (fun i o ho hl e he hb => ?_) (by rw [hrem, List.length_range]) I.drew (by rw [hrem]; exact h) hQ)
    have hlt : i < ops.size := (Array.getElem?_eq_some_iff.1 ho).1
    simp [Array.getD, hlt] at hl
end
end Go.Proofs.Ytebokfdiamepcaa.AM
