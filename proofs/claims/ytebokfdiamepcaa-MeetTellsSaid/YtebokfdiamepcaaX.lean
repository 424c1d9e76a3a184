/- The abstract machine, 15: appending, storing. -/
import Derived.Test.YtebokfdiamepcaaW
set_option linter.unusedVariables false
set_option linter.unusedSimpArgs false
namespace Go.Proofs.Ytebokfdiamepcaa.AM
open Go.RowKit

/-- A slice's elements are read, wherever they lie. -/
def Reads (w : World) (R : Nat → Prop) (e : Kd) (ys : List e.T) (A : Option Addr) : Prop :=
  ys = [] ∨ ∃ ad : Addr, A = some ad ∧ ∀ (i : Nat) (x : e.T), ys[i]? = some x → ∃ us, RepT w R e x us ∧ ∀ (j : Nat) (u : Value), us[j]? = some u → w.cell? (ad.add (i * e.size + j)) = some u
/-- What is appended, as cells. -/
theorem news_of {w : World} {R : Nat → Prop} {e : Kd} {ys : List e.T} {a : Addr} (hS : Reads w R e ys (some a)) :
    ∃ news : List Value, news.length = ys.length * e.size ∧ (∀ j u, news[j]? = some u → w.cell? (a.add j) = some u) ∧ RepR w R e ys news ∧ ∀ u ∈ news, u.oneCell' = true := by
  have key : ∀ i x, ys[i]? = some x → ∃ us, RepT w R e x us ∧ ∀ (j : Nat) (u : Value), us[j]? = some u → w.cell? (a.add (i * e.size + j)) = some u := by
    rcases hS with hS | ⟨ad, had, hcell⟩
    · intro i x hx; rw [hS] at hx; simp at hx
    · injection had with had; subst had; exact hcell
  have at_ : ∀ k, k < List.length (α := e.T) ys * e.size → ∃ u, w.cell? (a.add k) = some u ∧ u.oneCell' = true := by
    intro k hk
    have hs := size_pos e
    have hi : k / e.size < List.length (α := e.T) ys := (Nat.div_lt_iff_lt_mul hs).2 hk
    obtain ⟨us, hus, hc⟩ := key (k / e.size) _ (List.getElem?_eq_getElem hi)
    have hj : k % e.size < us.length := by rw [hus.len]; exact Nat.mod_lt _ hs
    refine ⟨us[k % e.size], ?_, hus.one _ (List.getElem_mem hj)⟩
    have := hc _ _ (List.getElem?_eq_getElem hj)
    rwa [Nat.mul_comm, Nat.div_add_mod] at this
  refine ⟨(List.range (List.length (α := e.T) ys * e.size)).map fun k => (w.cell? (a.add k)).getD undef, by simp, fun j u hj => ?_, fun i x hx => ?_, fun u hu => ?_⟩
  · rw [List.getElem?_map] at hj
    obtain ⟨k, hk, hu⟩ := Option.map_eq_some_iff.1 hj
    obtain ⟨hlt, rfl⟩ := List.getElem?_eq_some_iff.1 hk
    simp only [List.length_range] at hlt
    obtain ⟨u', hc, _⟩ := at_ j hlt
    simp only [List.getElem_range] at hu
    rw [hc] at hu ⊢
    rw [← hu]
    rfl
  · obtain ⟨us, hus, hc⟩ := key i x hx
    refine ⟨us, hus, fun j u hj => ?_⟩
    have hjs : j < e.size := by rw [← hus.len]; exact (List.getElem?_eq_some_iff.1 hj).1
    have hi : i < List.length (α := e.T) ys := (List.getElem?_eq_some_iff.1 hx).1
    have hk : i * e.size + j < List.length (α := e.T) ys * e.size := by
      have : (i + 1) * e.size ≤ List.length (α := e.T) ys * e.size := Nat.mul_le_mul_right _ hi
      rw [Nat.add_mul, Nat.one_mul] at this
      omega
    rw [List.getElem?_map, List.getElem?_range hk, Option.map_some, hc j u hj]
    rfl
  · obtain ⟨k, hk, rfl⟩ := List.mem_map.1 hu
    obtain ⟨u', hc, h1⟩ := at_ k (List.mem_range.1 hk)
    rw [hc]
    exact h1

section
variable {P : Program} {B : Nat} {w : World}
/-- append onto a row of the call's own, of what is read. -/
theorem append_run {t ty et : TypeId} {fi : TypeInfo} {z : Value} {e : Kd} (hu : P.underlying t = some (.slice et)) (hfi : P.info? et = some fi) (hz : fi.zero = some z) (hs : fi.size = e.size) (hzs : z.cells.size = e.size) (hb : fi.bytes ≤ 32768)
    {v : Value} {n : Nat} {cs : List Value} (ho : w.ownsRow B et e.size v n cs) {R : Nat → Prop} {ys : List e.T} {A : Option Addr} {c : Nat} (hS : Reads w R e ys A) (hfew : n + ys.length < 4294967296) (hbase : B ≤ w.heap.size) :
    ∃ v' w' news, (Builtin.append_ #[t, t] ty #[v, .slice A ys.length c]).run P w = .ok v' w' ∧ w'.ownsRow B et e.size v' (n + ys.length) (cs ++ news) ∧ RepR w R e ys news ∧ w.grownBy w' v.ownBlock ∧ (v'.ownBlock = v.ownBlock ∨ v'.ownBlock = some w.heap.size) := by
  cases A with
  | none =>
    rcases hS with hS | ⟨ad, had, _⟩
    · subst hS
      refine ⟨v, w, [], ?_, by simpa using ho, fun i x hx => by simp at hx, World.grownBy.refl w _, .inl rfl⟩
      rcases ho.2 with ⟨rfl, hn⟩ | ⟨g, cap, cur, rfl, _, _, hnc, _⟩
      · simp [Builtin.append_, run_underlying hu, sizeOf, typeInfo, hfi, Builtin.lenOf, Builtin.firstCells]
      · simp [Builtin.append_, run_underlying hu, sizeOf, typeInfo, hfi, Builtin.lenOf, Builtin.firstCells, hnc, storeCells]
    · cases had
  | some a =>
    obtain ⟨news, hl, hnews, hR, h1⟩ := news_of hS
    obtain ⟨v', w', hr, ho', hg, _, hat⟩ := run_append_own_at (P := P) w B t ty et fi z e.size fi.bytes hu hfi hz hs rfl hzs (size_pos e) v n cs ho a ys.length c news hl hnews h1 (by simp only [maxLen]; omega)
      (by calc (n + List.length (α := e.T) ys) * fi.bytes ≤ (n + List.length (α := e.T) ys) * 32768 := Nat.mul_le_mul_left _ hb
            _ ≤ 140737488355328 := by omega) hbase
    exact ⟨v', w', news, hr, ho', hR, hg, hat⟩
end

theorem reads_of {w : World} {R : Nat → Prop} {e : Kd} {ys : List e.T} {v : Value} (h : RepT w R (.sl e) ys [v]) : ∃ A c, v = .slice A ys.length c ∧ Reads w R e ys A := by
  simp only [RepT] at h
  obtain ⟨A, c, hv, _, hS⟩ := h
  refine ⟨A, c, (List.cons.inj hv).1, ?_⟩
  rcases hS with hS | ⟨ad, had, _, hcell⟩
  · exact .inl hS
  · exact .inr ⟨ad, had, hcell⟩
theorem castL_reads {w : World} {R : Nat → Prop} {e' e : Kd} {ys : List e'.T} {xs : List e.T} {v : Value} (h : castL e' e ys = some xs) (hr : ∃ A c, v = .slice A ys.length c ∧ Reads w R e' ys A) : ∃ A c, v = .slice A xs.length c ∧ Reads w R e xs A := by
  obtain ⟨rfl, rfl⟩ := castL_some h
  exact hr

section
variable {P : Program} {B : Nat} {w0 : World} {Γ : Gh} {m : Mem} (M : MemRel B w0 Γ m) {tb : Tb} (HT : TbOk P tb)
include M
omit M in
theorem row_reads {a : RowA} {v : Value} (hr : RowRel B Γ a v) : ∃ A c, v = .slice A a.xs.length c ∧ Reads Γ.w Γ.R a.e a.xs A := by
  obtain ⟨cs, ho, hR⟩ := hr.own
  rcases ho.2 with ⟨rfl, hn⟩ | ⟨g, cap, cur, rfl, hb, hg, hnc, hcm, hcs, htake⟩
  · exact ⟨none, 0, by rw [hn], .inl (List.eq_nil_of_length_eq_zero hn)⟩
  · refine ⟨_, cap, rfl, .inr ⟨_, rfl, fun i x hx => ?_⟩⟩
    obtain ⟨us, hus, hc⟩ := hR i x hx
    refine ⟨us, hus, fun j u hj => ?_⟩
    have hjs : j < a.e.size := by rw [← hus.len]; exact (List.getElem?_eq_some_iff.1 hj).1
    have hi : i < List.length (α := a.e.T) a.xs := (List.getElem?_eq_some_iff.1 hx).1
    have hle : i * a.e.size + j < List.length (α := a.e.T) a.xs * a.e.size := by
      have : (i + 1) * a.e.size ≤ List.length (α := a.e.T) a.xs * a.e.size := Nat.mul_le_mul_right _ hi
      rw [Nat.add_mul, Nat.one_mul] at this
      omega
    rw [add_plain, Nat.zero_add, ho.cellAt _ hle]
    exact hc j u hj
/-- What is appended, in the world. -/
theorem srcK_rep {e : Kd} {x : AV} {vx : Value} {ys : List e.T} (h : srcK m e x = some ys) (hx : RepV Γ x vx) : ∃ A c, vx = .slice A ys.length c ∧ Reads Γ.w Γ.R e ys A := by
  unfold srcK at h
  split at h
  · injection h with h
    subst h
    simp only [RepV] at hx
    exact ⟨none, 0, hx, .inl rfl⟩
  · simp only [RepV] at hx
    exact castL_reads h (reads_of hx)
  · split at h
    · cases h
    · rename_i e' zs tt st hd hrow
      simp only [RepV] at hx
      have hd' : (⟨e', zs, tt, st⟩ : RowA).st ≠ .dead := fun e => hd e
      exact castL_reads h (row_reads (M.rowAt hx.1 hrow hd'))
    · cases h
  · cases h
include HT
theorem append_ok {o : Oper} {t ty : Nat} {v x r : AV} {vv vx : Value} {m' : Mem} (h : kAppend tb o m pairK t v x = some (r, m')) (hv : RepV Γ v vv) (hx : RepV Γ x vx) :
    OpRes P B w0 Γ (Builtin.append_ #[t, t] ty #[vv, vx]) r m' := by
  unfold kAppend at h
  split at h
  · rename_i et hd
    have hdesc := (at_ok HT (t := t) (by rw [hd]; rfl)).desc
    rw [hd] at hdesc
    have hu := desc_sl hdesc
    split at h
    · split at h
      · rename_i κ hκ
        split at h
        · rename_i ys hys
          obtain ⟨hfew, h⟩ := gd_some h
          have hfew' := few_spec hfew
          obtain ⟨⟨fi, z, hfi, hz, hfs, hfb, _, hzs, hkd⟩, _⟩ := at_kd HT hκ
          obtain ⟨hks, hb0, hb1, hzr⟩ := hkd κ hκ
          simp only [RepV] at hv
          subst hv
          obtain ⟨A, c, rfl, hS⟩ := srcK_rep M hys hx
          obtain ⟨v', w', news, hr, ho, hR, hg, hat⟩ := append_run (P := P) (ty := ty) hu hfi hz (by rw [hfs, hks]) (by rw [hzs, hks]) (by rw [hfb]; exact hb1) (World.ownsRow_nil Γ.w B et κ.size) hS (by simpa [lenL] using hfew') M.base
          obtain ⟨M1, E1⟩ := M.grow hg
          simp only [Nat.zero_add, List.nil_append] at ho
          obtain ⟨Γ', E', M', hv', hw⟩ := mkRow_ok M1 h (u := v') ho (hR.mono E1.heap E1.R) (fun g hgv => by
            rcases hat with hat | hat
            · rw [hat] at hgv; cases hgv
            · rw [hat] at hgv
              injection hgv with hgv
              subst hgv
              have hF := M.free_new (Nat.le_refl _)
              exact ⟨hF.1, hF.2.1, hF.2.2⟩)
          exact ⟨Γ', _, E1.trans E', M', hv', by rw [hw]; exact hr⟩
        · cases h
      · cases h
    · rename_i id e0 n0
      split at h
      · rename_i e xs et' hrow
        split at h
        · rename_i ys hys
          obtain ⟨hok, h2⟩ := cond_some h
          obtain ⟨hfew, h3⟩ := gd_some h2
          clear h h2
          simp only [Bool.and_eq_true] at hok
          obtain ⟨⟨⟨het, hsz⟩, hby⟩, hnr⟩ := hok
          have hby' := Nat.le_of_ble_eq_true hby
          have het' := Nat.eq_of_beq_eq_true het
          subst het'
          have hsz' : (tb.at et).size = e.size := Nat.eq_of_beq_eq_true hsz
          have hfew' := few_spec hfew
          obtain ⟨⟨fi, z, hfi, hz, hfs, hfb, _, hzs, hkd⟩, _⟩ := at_size HT (t := et) (by rw [hsz']; exact size_pos e)
          simp only [RepV] at hv
          have hd' : (⟨e, xs, et, .own⟩ : RowA).st ≠ .dead := fun e => by cases e
          have hrr := M.rowAt hv.1 hrow hd'
          obtain ⟨cs, ho, hR0⟩ := hrr.own
          obtain ⟨A, c, rfl, hS⟩ := srcK_rep M hys hx
          obtain ⟨v', w', news, hr, ho', hR, hg, hat⟩ := append_run (P := P) (ty := ty) hu hfi hz (by rw [hfs, hsz']) (by rw [hzs, hsz']) (by rw [hfb]; exact hby') ho hS (by simpa [lenL, addN] using hfew') M.base
          have Mk := M.kill id
          have hfree : ∀ g, vv.ownBlock = some g → B ≤ g ∧ Free Γ (m.kill id) g := fun g hgv => by
            refine ⟨(M.rowlt hv.1 ⟨_, hrow, hd'⟩ hgv).1, ?_, fun i => M.rb id i vv g hv.1 hgv ⟨_, hrow, hd'⟩, fun i u hu' hl hug => ?_⟩
            · rcases hrr.fix g hgv with ⟨hst, _⟩ | ⟨_, hn⟩
              · cases hst
              · exact hn
            · obtain ⟨hl', hne⟩ := kill_live hl
              exact hne (M.rr i id u vv g hu' hv.1 hug hgv hl' ⟨_, hrow, hd'⟩)
          obtain ⟨M1, E1⟩ := Mk.write hg hfree
          obtain ⟨Γ', E', M', hv', hw⟩ := mkRow_ok M1 h3 (u := v') (cs := cs ++ news) (by simpa [apL, List.length_append] using ho') (by
              have := repR_app hR0 ho.1 hR
              simpa [apL] using this.mono E1.heap E1.R) (fun g hgv => by
            rcases hat with hat | hat
            · rw [hat] at hgv
              have hF := (hfree g hgv).2
              exact ⟨hF.1, hF.2.1, hF.2.2⟩
            · rw [hat] at hgv
              injection hgv with hgv
              subst hgv
              have hF := Mk.free_new (Nat.le_refl _)
              exact ⟨hF.1, hF.2.1, hF.2.2⟩)
          exact ⟨Γ', _, E1.trans E', M', hv', by rw [hw]; exact hr⟩
        · cases h
      · cases h
    · cases h
  · cases h
end
end Go.Proofs.Ytebokfdiamepcaa.AM
