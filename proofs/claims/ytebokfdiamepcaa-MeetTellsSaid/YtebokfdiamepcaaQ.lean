/- The abstract machine, 10: addresses, numbers, parts. -/
import Derived.Test.YtebokfdiamepcaaP
set_option linter.unusedVariables false
set_option linter.unusedSimpArgs false
namespace Go.Proofs.Ytebokfdiamepcaa.AM
open Go.RowKit

section
variable {P : Program} {tb : Tb} (HT : TbOk P tb) {B : Nat} {w0 : World} {Γ : Gh} {m : Mem} (M : MemRel B w0 Γ m)
include HT
theorem offOf_ok {t f off : Nat} (h : offOf tb (tb.at t) f = some off) : ∃ fs g i, P.underlying t = some (.struct fs) ∧ fs[f]? = some g ∧ g.offset = off ∧ P.info? g.type = some i ∧ i.size ≠ 0 := by
  unfold offOf at h
  split at h
  · rename_i fs hd
    split at h
    · rename_i o u hf
      obtain ⟨hpos, h⟩ := cond_some h
      injection h with h
      subst h
      have ok := at_ok HT (t := t) (by rw [hd]; rfl)
      have hdesc := ok.desc
      rw [hd] at hdesc
      obtain ⟨gs, hu, hl⟩ := desc_st hdesc
      rw [← hl] at hf
      rw [List.getElem?_map] at hf
      obtain ⟨g, hg, he⟩ := Option.map_eq_some_iff.1 hf
      simp only [Prod.mk.injEq] at he
      have hp : 0 < (tb.at u).size := by simp only [Nat.blt, Nat.ble_eq] at hpos; omega
      obtain ⟨⟨i, z, hi, _, hs, _⟩, _⟩ := at_size HT hp
      refine ⟨gs, g, i, hu, by simpa using hg, he.1, by rw [he.2]; exact hi, by omega⟩
    · cases h
  · cases h
omit HT in
theorem run_fieldAt {w : World} {t f : Nat} {fs : Array Field} {g : Field} {i : TypeInfo} (hu : P.underlying t = some (.struct fs)) (hg : fs[f]? = some g) (hi : P.info? g.type = some i) (hz : i.size ≠ 0) (a : Addr) :
    (Instr.fieldAt t (.pointer (some a)) f).run P w = .ok (.pointer (some (a.add g.offset))) w := by
  simp only [Instr.fieldAt, Sem.run_bind, run_underlying hu, Result.andThen_ok, hg, Instr.sureAddr, Sem.run_pure, fieldPlace, run_sizeOf hi, if_neg hz]
omit HT in
theorem RepL.tail_cells {Γ : Gh} {cs : List AV} {us : List Value} {ad : Addr} (off : Nat) (hl : RepL Γ cs us) (hc : ∀ j u, us[j]? = some u → Γ.w.cell? (ad.add j) = some u) :
    RepL Γ (cs.drop off) (us.drop off) ∧ ∀ j u, (us.drop off)[j]? = some u → Γ.w.cell? ((ad.add off).add j) = some u :=
  ⟨hl.drop off, fun j u hj => by rw [add_add]; rw [List.getElem?_drop] at hj; exact hc _ _ hj⟩
omit HT in
theorem all_drop {α : Type} {p : α → Bool} {l : List α} (n : Nat) (h : l.all p = true) : (l.drop n).all p = true := by
  rw [List.all_eq_true] at h ⊢
  exact fun x hx => h x (List.mem_of_mem_drop hx)

theorem fieldAddr_ok {t f : Nat} {a v : AV} {va : Value} {m' : Mem} (h : kFieldAddr tb m pairK t a f = some (v, m')) (ha : RepV Γ a va) : m' = m ∧ ∃ u, RepV Γ v u ∧ (Instr.fieldAt t va f).run P Γ.w = .ok u Γ.w := by
  unfold kFieldAddr at h
  split at h
  · rename_i off hoff
    obtain ⟨fs, g, i, hu, hg, rfl, hi, hz⟩ := offOf_ok HT hoff
    split at h
    · obtain ⟨rfl, rfl⟩ := pairK_some h
      simp only [RepV] at ha
      obtain ⟨b, hb, rfl⟩ := ha
      refine ⟨rfl, _, ?_, run_fieldAt hu hg hi hz _⟩
      simp only [RepV]
      exact ⟨b, hb, by rw [add_plain]⟩
    · obtain ⟨rfl, rfl⟩ := pairK_some h
      simp only [RepV] at ha
      obtain ⟨ad, us, rfl, hR, hp, hl, hc⟩ := ha
      refine ⟨rfl, _, ?_, run_fieldAt hu hg hi hz _⟩
      simp only [RepV]
      obtain ⟨h1, h2⟩ := RepL.tail_cells g.offset hl hc
      exact ⟨_, _, rfl, by rw [add_block]; exact hR, all_drop _ hp, h1, h2⟩
    · obtain ⟨rfl, rfl⟩ := pairK_some h
      simp only [RepV] at ha
      obtain ⟨b, n, c, hν, hlt, rfl⟩ := ha
      refine ⟨rfl, _, ?_, run_fieldAt hu hg hi hz _⟩
      simp only [RepV]
      exact ⟨b, n, c, hν, hlt, by rw [add_plain, Nat.add_assoc]⟩
    · cases h
  · cases h

theorem field_ok {t f : Nat} {x v : AV} {vx : Value} {m' : Mem} (h : kField tb m pairK t x f = some (v, m')) (hx : RepV Γ x vx) : m' = m ∧ ∃ u, RepV Γ v u ∧ (Instr.field t vx f).run P Γ.w = .ok u Γ.w := by
  unfold kField at h
  split at h
  · rename_i fs cs hd
    split at h
    · rename_i off u hf
      split at h
      · rename_i y hy
        obtain ⟨rfl, rfl⟩ := pairK_some h
        have hdesc := (at_ok HT (t := t) (by rw [hd]; rfl)).desc
        rw [hd] at hdesc
        obtain ⟨gs, hu, hl⟩ := desc_st hdesc
        rw [← hl, List.getElem?_map] at hf
        obtain ⟨g, hg, he⟩ := Option.map_eq_some_iff.1 hf
        simp only [Prod.mk.injEq] at he
        obtain ⟨rfl, rfl⟩ := he
        have hg' : gs[f]? = some g := by simpa using hg
        simp only [RepV] at hx
        obtain ⟨vs, rfl, hvs⟩ := hx
        obtain ⟨u', fi, hv, hi, hcase, d, hud⟩ := getPart_rep HT hy hvs
        refine ⟨rfl, u', hv, ?_⟩
        simp only [Instr.field, Sem.run_bind, run_underlying hu, Result.andThen_ok, hg', asAgg, Sem.run_pure]
        unfold part
        simp only [Sem.run_bind, run_isAgg hud, Result.andThen_ok]
        rcases hcase with ⟨ha, hle, rfl⟩ | ⟨ha, hx'⟩
        · simp only [ha, if_true, Sem.run_bind, run_sizeOf hi, Result.andThen_ok]
          simp [List.drop_take]
        · simp only [ha, Bool.false_eq_true, if_false]
          have : vs.toArray[g.offset]? = some u' := by simpa using hx'
          rw [this]
          rfl
      · cases h
    · cases h
  · cases h

omit HT in
theorem inb_spec {i : Int} {n : Nat} (h : inb i n = true) : 0 ≤ i ∧ i < (n : Int) := by
  unfold inb at h
  simpa using h
omit HT in
theorem ways_some {f : Nat → Option (AV × Mem)} {r : AV × Mem} : ∀ {n j : Nat} {i : Int}, kIndexAddr.ways n j i f = some r → ∃ q, q < n + j ∧ j ≤ q ∧ i = (q : Int) ∧ f q = some r
  | 0, j, i, h => by simp [kIndexAddr.ways] at h
  | n + 1, j, i, h => by
    simp only [kIndexAddr.ways, br] at h
    cases hb : eqI i (ofN j) with
    | true =>
      rw [hb] at h
      exact ⟨j, by omega, Nat.le_refl _, of_decide_eq_true hb, h⟩
    | false =>
      rw [hb] at h
      obtain ⟨q, h1, h2, h3, h4⟩ := ways_some h
      exact ⟨q, by omega, by omega, h3, h4⟩
theorem indexAddr_ok {t : Nat} {x i v : AV} {vx vi : Value} {m' : Mem} (h : kIndexAddr tb m pairK t x i = some (v, m')) (hx : RepV Γ x vx) (hi : RepV Γ i vi) : m' = m ∧ ∃ u, RepV Γ v u ∧ (Instr.indexAt t vx vi).run P Γ.w = .ok u Γ.w := by
  unfold kIndexAddr at h
  split at h
  · rename_i k i
    simp only [RepV] at hi
    subst hi
    split at h
    · rename_i et e xs hd
      obtain ⟨hsz, h⟩ := cond_some h
      obtain ⟨hin, h⟩ := gd_some h
      obtain ⟨rfl, rfl⟩ := pairK_some h
      have hdesc := (at_ok HT (t := t) (by rw [hd]; rfl)).desc
      rw [hd] at hdesc
      have hu := desc_sl hdesc
      have hsz' : (tb.at et).size = e.size := Nat.eq_of_beq_eq_true hsz
      obtain ⟨⟨f, z, hf, _, hs, _⟩, _⟩ := at_size HT (t := et) (by rw [hsz']; exact size_pos e)
      obtain ⟨h0, h1⟩ := inb_spec hin
      simp only [RepV, RepT] at hx
      obtain ⟨A, c, hv, hc, hS⟩ := hx
      obtain rfl := (List.cons.inj hv).1
      have hlt : i.toNat < xs.length := by unfold lenL at h1; omega
      rcases hS with hS | ⟨ad, rfl, hR, hcell⟩
      · rw [hS] at hlt; simp at hlt
      · obtain ⟨us, hus, hcl⟩ := hcell i.toNat _ (rdD_at e.dflt xs i hlt)
        refine ⟨rfl, .pointer (some (ad.add (i.toNat * e.size))), ?_, ?_⟩
        · simp only [RepV]
          exact ⟨_, us, rfl, by rw [add_block]; exact hR, cells_pure e _, hus.cells, fun j u hj => by rw [add_add]; exact hcl j u hj⟩
        · have hlen : List.length (α := e.T) xs = lenL xs := rfl
          simp only [Instr.indexAt, Sem.run_bind, asIntOf, Sem.run_pure, run_underlying hu, Result.andThen_ok]
          rw [if_pos ⟨h0, by rw [hlen]; exact h1⟩]
          simp only [Sem.run_bind, run_sizeOf hf, Result.andThen_ok, Sem.run_pure, hs, hsz']
    · rename_i et id e n hd
      obtain ⟨hsz, h⟩ := cond_some h
      obtain ⟨hin, h⟩ := gd_some h
      obtain ⟨rfl, rfl⟩ := pairK_some h
      have hdesc := (at_ok HT (t := t) (by rw [hd]; rfl)).desc
      rw [hd] at hdesc
      have hu := desc_sl hdesc
      have hsz' : (tb.at et).size = e.size := Nat.eq_of_beq_eq_true hsz
      obtain ⟨⟨f, z, hf, _, hs, _⟩, _⟩ := at_size HT (t := et) (by rw [hsz']; exact size_pos e)
      obtain ⟨h0, h1⟩ := inb_spec hin
      simp only [RepV] at hx
      rcases hx with ⟨hν, ⟨hz, _⟩ | ⟨g, c, rfl⟩⟩
      · omega
      refine ⟨rfl, .pointer (some ((⟨g, 0, none⟩ : Addr).add (i.toNat * e.size))), ?_, ?_⟩
      · simp only [RepV]
        exact ⟨g, n, c, hν, by omega, by rw [add_plain]; simp⟩
      · simp only [Instr.indexAt, Sem.run_bind, asIntOf, Sem.run_pure, run_underlying hu, Result.andThen_ok]
        rw [if_pos ⟨h0, h1⟩]
        simp only [Sem.run_bind, run_sizeOf hf, Result.andThen_ok, Sem.run_pure, hs, hsz']
    · rename_i n e id off hd
      obtain ⟨hok, h⟩ := cond_some h
      obtain ⟨q, hq, _, rfl, h'⟩ := ways_some h
      clear h
      obtain ⟨rfl, rfl⟩ := pairK_some h'
      have hdesc := (at_ok HT (t := t) (by rw [hd]; rfl)).desc
      rw [hd] at hdesc
      have hu := desc_arr hdesc
      simp only [RepV] at hx
      obtain ⟨b, hb, rfl⟩ := hx
      · obtain ⟨⟨f, z, hf, _, hs, _⟩, _⟩ := at_ok HT hok
        refine ⟨rfl, .pointer (some ((⟨b, off, none⟩ : Addr).add (q * (tb.at e).size))), ?_, ?_⟩
        · simp only [RepV]
          exact ⟨b, hb, by rw [add_plain]⟩
        · simp only [Instr.indexAt, Sem.run_bind, asIntOf, Sem.run_pure, run_underlying hu, Result.andThen_ok, Instr.sureAddr]
          rw [if_pos ⟨Int.natCast_nonneg _, by omega⟩]
          simp only [Sem.run_bind, run_sizeOf hf, Result.andThen_ok, Sem.run_pure, hs, Int.toNat_natCast]
    · rename_i n e cs hd
      obtain ⟨hok, h⟩ := cond_some h
      obtain ⟨q, hq, _, rfl, h'⟩ := ways_some h
      clear h
      obtain ⟨rfl, rfl⟩ := pairK_some h'
      have hdesc := (at_ok HT (t := t) (by rw [hd]; rfl)).desc
      rw [hd] at hdesc
      have hu := desc_arr hdesc
      simp only [RepV] at hx
      obtain ⟨ad, us, rfl, hR, hp, hl, hc⟩ := hx
      obtain ⟨h1, h2⟩ := RepL.tail_cells (q * (tb.at e).size) hl hc
      · obtain ⟨⟨f, z, hf, _, hs, _⟩, _⟩ := at_ok HT hok
        refine ⟨rfl, .pointer (some (ad.add (q * (tb.at e).size))), ?_, ?_⟩
        · simp only [RepV]
          exact ⟨_, _, rfl, by rw [add_block]; exact hR, all_drop _ hp, h1, h2⟩
        · simp only [Instr.indexAt, Sem.run_bind, asIntOf, Sem.run_pure, run_underlying hu, Result.andThen_ok, Instr.sureAddr]
          rw [if_pos ⟨Int.natCast_nonneg _, by omega⟩]
          simp only [Sem.run_bind, run_sizeOf hf, Result.andThen_ok, Sem.run_pure, hs, Int.toNat_natCast]
    · cases h
  · cases h

omit HT in
theorem extract_ok {x v : AV} {i : Nat} {vx : Value} {m' : Mem} (h : kExtract m pairK x i = some (v, m')) (hx : RepV Γ x vx) : m' = m ∧ ∃ u, RepV Γ v u ∧ (Instr.extract vx i).run P Γ.w = .ok u Γ.w := by
  unfold kExtract at h
  split at h
  · rename_i vs
    split at h
    · rename_i y hy
      obtain ⟨rfl, rfl⟩ := pairK_some h
      simp only [RepV] at hx
      obtain ⟨us, rfl, hus⟩ := hx
      obtain ⟨u, hu, hv⟩ := hus.at hy
      refine ⟨rfl, u, hv, ?_⟩
      have : us.toArray[i]? = some u := by simpa using hu
      simp only [Instr.extract, this]
      rfl
    · cases h
  · cases h

theorem conv_ok {src dst : Nat} {x v : AV} {vx : Value} {m' : Mem} (hs : (P.underlying src).isSome = true) (h : kConv tb m pairK dst x = some (v, m')) (hx : RepV Γ x vx) : m' = m ∧ ∃ u, RepV Γ v u ∧ (convert src dst vx).run P Γ.w = .ok u Γ.w := by
  unfold kConv at h
  split at h
  · rename_i j k n hd
    obtain ⟨rfl, rfl⟩ := pairK_some h
    have hdesc := (at_ok HT (t := dst) (by rw [hd]; rfl)).desc
    rw [hd] at hdesc
    have hu := desc_int hdesc
    simp only [RepV] at hx
    subst hx
    refine ⟨rfl, .int j (j.wrap n), by simp only [RepV, wr_eq], ?_⟩
    obtain ⟨sd, hsd⟩ := Option.isSome_iff_exists.1 hs
    simp only [convert, Sem.run_bind, run_underlying hsd, run_underlying hu, Result.andThen_ok]
    rfl
  · cases h
omit HT in
theorem un_ok {op : UnOp} {x v : AV} {vx : Value} {m' : Mem} (h : kUn m pairK op x = some (v, m')) (hx : RepV Γ x vx) : m' = m ∧ ∃ u, RepV Γ v u ∧ (Op.unary op vx).run P Γ.w = .ok u Γ.w := by
  unfold kUn at h
  split at h
  · obtain ⟨rfl, rfl⟩ := pairK_some h
    simp only [RepV] at hx
    subst hx
    exact ⟨rfl, _, by simp only [RepV]; rfl, rfl⟩
  · obtain ⟨rfl, rfl⟩ := pairK_some h
    simp only [RepV] at hx
    subst hx
    exact ⟨rfl, _, by simp only [RepV, wr_eq]; rfl, rfl⟩
  · cases h

omit HT in
theorem eqL_ok {Γ : Gh} : ∀ {ks : List Kd} {cs ds : List AV} {c : Bool} {vs us : List Value}, eqL ks cs ds = some c → RepL Γ cs vs → RepL Γ ds us → leafsM ks vs = true ∧ leafsM ks us = true ∧ eqC vs us = c := by
  intro ks cs ds
  induction ks generalizing cs ds with
  | nil => intro c vs us h; simp [eqL] at h
  | cons k ks ih =>
    intro c vs us h hc hd
    unfold eqL at h
    split at h
    · rename_i l i a j b heq
      obtain ⟨hk, h⟩ := cond_some h
      injection h with h
      subst h
      simp only [List.cons.injEq] at heq
      obtain ⟨rfl, rfl⟩ := heq
      simp only [RepL, RepV] at hc hd
      obtain ⟨_, _, rfl, rfl, rfl⟩ := hc
      obtain ⟨_, _, rfl, rfl, rfl⟩ := hd
      simp only [Bool.and_eq_true] at hk
      refine ⟨by simp [leafsM, leafM, hk.1], by simp [leafsM, leafM, hk.2], ?_⟩
      simp only [eqC, eq1, Bool.and_true]
      rfl
    · rename_i a b heq
      injection h with h
      subst h
      simp only [List.cons.injEq] at heq
      obtain ⟨rfl, rfl⟩ := heq
      simp only [RepL, RepV] at hc hd
      obtain ⟨_, _, rfl, rfl, rfl⟩ := hc
      obtain ⟨_, _, rfl, rfl, rfl⟩ := hd
      refine ⟨by simp [leafsM, leafM], by simp [leafsM, leafM], ?_⟩
      simp only [eqC, eq1, Bool.and_true]
      rfl
    · rename_i l ks' i a r j b q _ heq
      obtain ⟨hk, h⟩ := cond_some h
      simp only [List.cons.injEq] at heq
      obtain ⟨rfl, rfl⟩ := heq
      split at h
      · rename_i c' hc'
        injection h with h
        subst h
        simp only [RepL, RepV] at hc hd
        obtain ⟨_, vs', rfl, rfl, hc⟩ := hc
        obtain ⟨_, us', rfl, rfl, hd⟩ := hd
        obtain ⟨h1, h2, h3⟩ := ih hc' hc hd
        simp only [Bool.and_eq_true] at hk
        refine ⟨by simp [leafsM, leafM, hk.1, h1], by simp [leafsM, leafM, hk.2, h2], ?_⟩
        simp only [eqC, eq1, h3]
        rfl
      · cases h
    · rename_i ks' a r b q _ heq
      simp only [List.cons.injEq] at heq
      obtain ⟨rfl, rfl⟩ := heq
      split at h
      · rename_i c' hc'
        injection h with h
        subst h
        simp only [RepL, RepV] at hc hd
        obtain ⟨_, vs', rfl, rfl, hc⟩ := hc
        obtain ⟨_, us', rfl, rfl, hd⟩ := hd
        obtain ⟨h1, h2, h3⟩ := ih hc' hc hd
        refine ⟨by simp [leafsM, leafM, h1], by simp [leafsM, leafM, h2], ?_⟩
        simp only [eqC, eq1, h3]
        rfl
      · cases h
    · cases h
end
end Go.Proofs.Ytebokfdiamepcaa.AM
