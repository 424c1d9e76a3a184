/- The abstract machine, 14: slices made, cut and appended to; stores. -/
import Derived.Test.YtebokfdiamepcaaV
set_option linter.unusedVariables false
set_option linter.unusedSimpArgs false
namespace Go.Proofs.Ytebokfdiamepcaa.AM
open Go.RowKit

theorem few_spec {n : Nat} (h : few n = true) : n < 4294967296 := of_decide_eq_true h
theorem sameOp_eval {x y : Operand} (h : sameOp x y = true) (a : Act) : a.eval x = a.eval y := by
  unfold sameOp at h
  split at h
  · rw [Nat.eq_of_beq_eq_true h]
  · simp only [Bool.and_eq_true] at h
    rw [kb_eq h.1, eq_of_beq h.2]
  · cases h

/-- A part of a slice that is read. -/
theorem cut_rep {w : World} {R : Nat → Prop} {e : Kd} {xs : List e.T} {A : Option Addr} {n c : Nat} (h : RepT w R (.sl e) xs [.slice A n c]) {l q : Nat} (hl : l ≤ q) (hq : q ≤ n) :
    n = List.length (α := e.T) xs ∧ n ≤ c ∧ RepT w R (.sl e) (List.drop (α := e.T) l (List.take q xs)) [.slice (if c = l then A else A.map (·.add (l * e.size))) (q - l) (c - l)] := by
  simp only [RepT] at h
  obtain ⟨A', c', he, hc, hS⟩ := h
  simp only [List.cons.injEq, Value.slice.injEq, and_true] at he
  obtain ⟨rfl, rfl, rfl⟩ := he
  refine ⟨rfl, hc, ?_⟩
  simp only [RepT]
  have hlen : List.length (α := e.T) (List.drop l (List.take q xs)) = q - l := by
    rw [List.length_drop, List.length_take]; omega
  refine ⟨_, _, by rw [hlen], by rw [hlen]; omega, ?_⟩
  rcases Nat.eq_zero_or_pos (q - l) with h0 | h0
  · exact .inl (List.eq_nil_of_length_eq_zero (by rw [hlen, h0]))
  · right
    rcases hS with hS | ⟨ad, rfl, hR, hcell⟩
    · rw [hS] at hq; simp at hq; omega
    · rw [if_neg (by omega)]
      refine ⟨ad.add (l * e.size), rfl, by rw [add_block]; exact hR, fun i x hx => ?_⟩
      rw [List.getElem?_drop, List.getElem?_take] at hx
      split at hx
      · obtain ⟨us, hus, hj⟩ := hcell _ x hx
        refine ⟨us, hus, fun j u hju => ?_⟩
        rw [add_add, ← hj j u hju]
        congr 2
        rw [Nat.add_mul]
        omega
      · cases hx
theorem intO_ok {Γ : Gh} {o : Option Operand} {ev : Operand → AV} {aev : Operand → Value} (he : ∀ x, RepV Γ (ev x) (aev x)) {r : Option Int} (h : intO (o.map ev) = some r) :
    (r = none ∧ o.map aev = none) ∨ ∃ k n, r = some n ∧ o.map aev = some (.int k n) := by
  cases o with
  | none =>
    simp only [Option.map_none, intO, Option.some.injEq] at h
    exact .inl ⟨h.symm, rfl⟩
  | some x =>
    have hx := he x
    simp only [Option.map_some] at h ⊢
    unfold intO at h
    split at h
    · rename_i heq
      cases heq
    · rename_i k n heq
      injection heq with heq
      rw [heq] at hx
      simp only [RepV] at hx
      injection h with h
      exact .inr ⟨k, n, h.symm, by rw [hx]⟩
    · cases h
/-- The bounds that are laid, and the cut. -/
theorem cut_run {P : Program} {t e : Nat} {i : TypeInfo} (hu : P.underlying t = some (.slice e)) (hi : P.info? e = some i) {A : Option Addr} {n c : Nat} (hc : n ≤ c) {lo hi' : Option Int} {vlo vhi : Option Value}
    (h1 : (lo = none ∧ vlo = none) ∨ ∃ k q, lo = some q ∧ vlo = some (.int k q)) (h2 : (hi' = none ∧ vhi = none) ∨ ∃ k q, hi' = some q ∧ vhi = some (.int k q)) {α : Type} {x : Option α} {y : α} (hg : cutGd lo hi' n x = some y) (w : World) :
    x = some y ∧ ∃ l q, l ≤ q ∧ q ≤ n ∧ (∀ {β : Type} (xs : List β), xs.length = n → cutL lo hi' xs = (xs.take q).drop l) ∧
      (Instr.sliceAt t (.slice A n c) vlo vhi none).run P w = .ok (.slice (if c = l then A else A.map (·.add (l * i.size))) (q - l) (c - l)) w := by
  have hel : P.elem t = e := by simp [Program.elem, hu]
  have hu' : P.underlying t = some (.slice (P.elem t)) := by rw [hel]; exact hu
  have hsz : ∀ w, (sizeOf (P.elem t)).run P w = .ok i.size w := fun w => by rw [hel]; exact run_sizeOf hi w
  rcases h1 with ⟨rfl, rfl⟩ | ⟨k1, q1, rfl, rfl⟩ <;> rcases h2 with ⟨rfl, rfl⟩ | ⟨k2, q2, rfl, rfl⟩
  · refine ⟨hg, 0, n, Nat.zero_le _, Nat.le_refl _, fun xs hx => ?_, ?_⟩
    · simp [cutL, ← hx]
    · rw [run_sliceAt_slice w t _ _ _ _ hu', run_slice_all w t A n c hu', hsz]
      simp [sliced]
  · obtain ⟨g1, hg⟩ := gd_some hg
    obtain ⟨g2, hg⟩ := gd_some hg
    have g1' := of_decide_eq_true g1
    have g2' := of_decide_eq_true g2
    unfold ofN at g2'
    refine ⟨hg, 0, q2.toNat, Nat.zero_le _, by omega, fun xs hx => ?_, ?_⟩
    · simp [cutL, tkL]
    · rw [run_sliceAt_slice w t _ _ _ _ hu', run_slice_h w t A n c hu' k2 q2 g1' (by omega), hsz]
      simp [sliced]
  · obtain ⟨g1, hg⟩ := gd_some hg
    obtain ⟨g2, hg⟩ := gd_some hg
    have g1' := of_decide_eq_true g1
    have g2' := of_decide_eq_true g2
    unfold ofN at g2'
    refine ⟨hg, q1.toNat, n, by omega, Nat.le_refl _, fun xs hx => ?_, ?_⟩
    · simp [cutL, dpL, ← hx]
    · rw [run_sliceAt_slice w t _ _ _ _ hu', run_slice_l w t A n c hu' k1 q1 g1' (by omega), hsz]
      simp [sliced]
  · obtain ⟨g1, hg⟩ := gd_some hg
    obtain ⟨g2, hg⟩ := gd_some hg
    obtain ⟨g3, hg⟩ := gd_some hg
    obtain ⟨g4, hg⟩ := gd_some hg
    have g1' := of_decide_eq_true g1
    have g2' := of_decide_eq_true g2
    have g3' := of_decide_eq_true g3
    have g4' := of_decide_eq_true g4
    unfold ofN at g2'
    refine ⟨hg, q1.toNat, q2.toNat, by omega, by omega, fun xs hx => ?_, ?_⟩
    · simp [cutL, dpL, tkL]
    · rw [run_sliceAt_slice w t _ _ _ _ hu', run_slice_lh w t A n c hu' k1 k2 q1 q2 g3' g4' (by omega), hsz]
      simp [sliced]

theorem decAll_rep {Γ : Gh} {κ : Kd} : ∀ {n : Nat} {cs : List AV} {vs : List Value} {xs : List κ.T}, kSlice.decAll κ n cs = some xs → RepL Γ cs vs → xs.length = n ∧ RepR Γ.w Γ.R κ xs vs
  | 0, [], vs, xs, h, hr => by
    simp only [kSlice.decAll, Option.some.injEq] at h
    subst h
    exact ⟨rfl, fun i x hx => by simp at hx⟩
  | 0, _ :: _, vs, xs, h, hr => by simp [kSlice.decAll] at h
  | n + 1, cs, vs, xs, h, hr => by
    simp only [kSlice.decAll] at h
    split at h
    · rename_i x r hd
      split at h
      · rename_i ys hy
        injection h with h
        subst h
        obtain ⟨us, ws, rfl, h1, h2⟩ := dec_rep hd hr
        obtain ⟨h3, h4⟩ := decAll_rep hy h2
        refine ⟨by simp [h3], fun i z hz => ?_⟩
        cases i with
        | zero =>
          obtain rfl : x = z := by simpa using hz
          refine ⟨us, h1, fun j u hj => ?_⟩
          rw [Nat.zero_mul, Nat.zero_add, List.getElem?_append_left (List.getElem?_eq_some_iff.1 hj).1]
          exact hj
        | succ i =>
          obtain ⟨qs, hq, hc⟩ := h4 i z (by simpa using hz)
          refine ⟨qs, hq, fun j u hj => ?_⟩
          have hl := h1.len
          rw [Nat.add_mul, Nat.one_mul, List.getElem?_append_right (by omega), hl]
          rw [show i * κ.size + κ.size + j - κ.size = i * κ.size + j by omega]
          exact hc j u hj
      · cases h
    · cases h

section
variable {P : Program} {B : Nat} {w0 : World} {Γ : Gh} {m : Mem} (M : MemRel B w0 Γ m) {tb : Tb} (HT : TbOk P tb)
include M HT
theorem make_ok {o : Oper} {t : Nat} {n v : AV} {vn : Value} {m' : Mem} {same : Bool} (h : kMake tb o m pairK t same n = some (v, m')) (hn : RepV Γ n vn) :
    same = true ∧ OpRes P B w0 Γ (Instr.makeSlice t vn vn) v m' := by
  unfold kMake at h
  split at h
  · rename_i et n hd
    simp only [RepV] at hn
    subst hn
    have hdesc := (at_ok HT (t := t) (by rw [hd]; rfl)).desc
    rw [hd] at hdesc
    have hu := desc_sl hdesc
    split at h
    · rename_i κ hκ
      obtain ⟨hs, h⟩ := cond_some h
      obtain ⟨g1, h⟩ := gd_some h
      obtain ⟨g2, h⟩ := gd_some h
      have g1' : 0 ≤ n := of_decide_eq_true g1
      have g2' : n.toNat < 4294967296 := of_decide_eq_true g2
      refine ⟨hs, ?_⟩
      obtain ⟨⟨fi, z, hfi, hz, hfs, hfb, _, hzs, hkd⟩, _⟩ := at_kd HT hκ
      obtain ⟨hks, hb0, hb1, hzr⟩ := hkd κ hκ
      have hfs' : fi.size = κ.size := by rw [hfs, hks]
      obtain ⟨q, rfl⟩ := Int.eq_ofNat_of_zero_le g1'
      simp only [Int.toNat_natCast] at g2' h
      have hbytes : fi.bytes * q ≤ 281474976710656 := by
        rw [hfb]
        calc (tb.at et).bytes * q ≤ 32768 * q := Nat.mul_le_mul_right _ hb1
          _ ≤ 281474976710656 := by omega
      obtain ⟨w', hr, ho, hg⟩ := run_make_full (P := P) Γ.w B t et fi z κ.size hu hfi hz hfs' .i64 .i64 q hbytes (by simp only [maxLen]; omega) M.base
      obtain ⟨M1, E1⟩ := M.grow hg
      have hmade := made_rep (hzr Γ.w Γ.R) q
      obtain ⟨Γ', E', M', hv, hw⟩ := mkRow_ok M1 h (u := .slice (some ⟨Γ.w.heap.size, 0, none⟩) q q) (cs := (madeCells z.cells (q * κ.size)).toList) (by simpa [rpL] using ho) (by simpa [rpL] using hmade.mono E1.heap E1.R) (fun g hg => by
        simp only [Value.ownBlock, Option.some.injEq] at hg
        subst hg
        have hF := M.free_new (Nat.le_refl _)
        exact ⟨hF.1, hF.2.1, hF.2.2⟩)
      exact ⟨Γ', _, E1.trans E', M', hv, by rw [hw]; exact hr⟩
    · cases h
  · cases h

theorem slice_ok {o : Oper} {t : Nat} {x v : AV} {vx : Value} {lo hi : Option Operand} {ev : Operand → AV} {aev : Operand → Value} (he : ∀ x, RepV Γ (ev x) (aev x)) {m' : Mem} (h : kSlice tb o m pairK t x (lo.map ev) (hi.map ev) = some (v, m')) (hx : RepV Γ x vx) :
    OpRes P B w0 Γ (Instr.sliceAt t vx (lo.map aev) (hi.map aev) none) v m' := by
  unfold kSlice at h
  split at h
  · rename_i lo' hi' hlo hhi
    have h1 := intO_ok he hlo
    have h2 := intO_ok he hhi
    split at h
    · rename_i et e xs hd
      have hdesc := (at_ok HT (t := t) (by rw [hd]; rfl)).desc
      rw [hd] at hdesc
      have hu := desc_sl hdesc
      obtain ⟨hsz, h⟩ := cond_some h
      have hsz' : (tb.at et).size = e.size := Nat.eq_of_beq_eq_true hsz
      obtain ⟨⟨f, z, hf, _, hs, _⟩, _⟩ := at_size HT (t := et) (by rw [hsz']; exact size_pos e)
      have hx' := hx
      simp only [RepV, RepT] at hx'
      obtain ⟨A, c, hv, hc, _⟩ := hx'
      obtain rfl := (List.cons.inj hv).1
      obtain ⟨hp, l, q, hl, hq, hcut, hrun⟩ := cut_run (P := P) (A := A) hu hf hc h1 h2 h Γ.w
      obtain ⟨rfl, rfl⟩ := pairK_some hp
      simp only [RepV] at hx
      obtain ⟨_, _, hr⟩ := cut_rep hx hl hq
      refine OpRes.same M (u := _) ?_ hrun
      simp only [RepV]
      rw [hcut xs rfl, hs, hsz']
      exact hr
    · rename_i et id e n hd
      have hdesc := (at_ok HT (t := t) (by rw [hd]; rfl)).desc
      rw [hd] at hdesc
      have hu := desc_sl hdesc
      split at h
      · cases h
      · rename_i e' xs tt st hdead hrow
        obtain ⟨hok, h⟩ := cond_some h
        simp only [Bool.and_eq_true] at hok
        have hsz' : (tb.at et).size = e'.size := Nat.eq_of_beq_eq_true hok.2
        obtain ⟨⟨f, z, hf, _, hs, _⟩, _⟩ := at_size HT (t := et) (by rw [hsz']; exact size_pos e')
        simp only [RepV] at hx
        obtain ⟨hν, _⟩ := hx
        have hd' : (⟨e', xs, tt, st⟩ : RowA).st ≠ .dead := fun e => hdead e
        obtain ⟨R', M', E', hR'⟩ := M.fixL [id]
        have hsl := row_sl (M.rowAt hν hrow hd') E'.R (fun g hg => (hR' g).2 (.inr ⟨id, by simp, ⟨_, hrow, hd'⟩, vx, hν, hg⟩))
        have hsl' := hsl
        simp only [RepT] at hsl'
        obtain ⟨A, c, hv, hc, _⟩ := hsl'
        obtain rfl := (List.cons.inj hv).1
        obtain ⟨hp, l, q, hl, hq, hcut, hrun⟩ := cut_run (P := P) (A := A) hu hf hc h1 h2 h Γ.w
        obtain ⟨rfl, rfl⟩ := pairK_some hp
        obtain ⟨_, _, hr⟩ := cut_rep hsl hl hq
        refine ⟨_, _, E', M', ?_, hrun⟩
        simp only [RepV]
        rw [hcut xs rfl, hs, hsz']
        exact hr
      · cases h
    · rename_i et hd
      have hdesc := (at_ok HT (t := t) (by rw [hd]; rfl)).desc
      rw [hd] at hdesc
      have hu := desc_sl hdesc
      simp only [RepV] at hx
      subst hx
      obtain ⟨hinf, h⟩ := cond_some h
      obtain ⟨⟨f, z, hf, _⟩, _⟩ := at_ok HT hinf
      obtain ⟨hp, l, q, hl, hq, hcut, hrun⟩ := cut_run (P := P) (A := none) hu hf (Nat.le_refl 0) h1 h2 h Γ.w
      obtain ⟨rfl, rfl⟩ := pairK_some hp
      refine OpRes.same M (u := _) ?_ hrun
      simp only [RepV]
      rw [show q - l = 0 by omega]
      simp
    · rename_i n e id hd
      have hdesc := (at_ok HT (t := t) (by rw [hd]; rfl)).desc
      rw [hd] at hdesc
      have hu := desc_arr hdesc
      split at h
      · rename_i κ b hκ hb
        split at h
        · rename_i xs hxs
          obtain ⟨hok, h⟩ := cond_some h
          obtain ⟨rfl, rfl⟩ := pairK_some h
          simp only [RepV] at hx
          obtain ⟨blk, hμ, rfl⟩ := hx
          obtain ⟨us, ty, hcell, hl⟩ := (M.boxAt hμ hb).cells
          obtain ⟨M', E'⟩ := M.fixBox hμ
          obtain ⟨⟨f, z, hf, _, hs, _, _, _, hkd⟩, _⟩ := at_kd HT hκ
          obtain ⟨hks, _⟩ := hkd κ hκ
          simp only [Bool.and_eq_true] at hok
          have hnr : b.cs.flatMap rowsC = [] := List.eq_nil_of_length_eq_zero (by simpa [rowsP, cellsIn, hb] using Nat.eq_of_beq_eq_true hok.1)
          have L : Lends Γ { Γ with R := fun c => Γ.R c ∨ c = blk } m (b.cs.flatMap rowsC) [] := ⟨rfl, fun b h => .inl h, (fun c ⟨i, hi, _⟩ => by rw [hnr] at hi; cases hi), (fun i hi => by cases hi)⟩
          obtain ⟨h3, h4⟩ := decAll_rep hxs (lendCs_rep M L hl)
          rcases h1 with ⟨_, h1⟩ | ⟨_, _, h1, _⟩
          · rcases h2 with ⟨_, h2⟩ | ⟨_, _, h2, _⟩
            · refine ⟨_, .slice (some ⟨blk, 0, none⟩) n n, E', M', ?_, ?_⟩
              · simp only [RepV, RepT]
                refine ⟨_, n, by rw [h3], by rw [h3]; exact Nat.le_refl _, .inr ⟨_, rfl, .inr rfl, fun i x hx => ?_⟩⟩
                obtain ⟨ws, hw, hc⟩ := h4 i x hx
                refine ⟨ws, hw, fun j u hj => ?_⟩
                rw [add_plain, Nat.zero_add]
                show Γ.w.cell? _ = _
                rw [cell_of_row Γ.w blk _ us ty (0, 0) hcell]
                simpa using hc j u hj
              · rw [h1, h2]
                have hal : P.arrayLen t = n := by simp [Program.arrayLen, hu]
                have hel : P.elem t = e := by simp [Program.elem, hu]
                simp [Instr.sliceAt, run_underlying hu, Instr.sureAddr, Instr.sliceBounds, run_sizeOf hf, Addr.add_zero']
            · cases h2
          · cases h1
        · cases h
      · cases h
    · cases h
  · cases h
end
end Go.Proofs.Ytebokfdiamepcaa.AM
