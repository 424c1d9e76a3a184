/- The abstract machine, 16: stores. -/
import Derived.Test.YtebokfdiamepcaaX
set_option linter.unusedVariables false
set_option linter.unusedSimpArgs false
namespace Go.Proofs.Ytebokfdiamepcaa.AM
open Go.RowKit

theorem fix_other : ∀ (l : List Nat) (m : Mem) {id : Nat}, (l.all fun j => !(Nat.beq j id)) = true → (m.fix l).row id = m.row id
  | [], m, id, _ => rfl
  | j :: l, m, id, h => by
    simp only [List.all_cons, Bool.and_eq_true, Bool.not_eq_true'] at h
    have hne : id ≠ j := fun e => by rw [e, Nat.beq_refl] at h; exact absurd h.1 (by simp)
    simp only [Mem.fix]
    rw [fix_other l _ h.2]
    split
    · exact upd_other _ _ hne
    · rfl
theorem fix_box : ∀ (l : List Nat) (m : Mem), (m.fix l).box = m.box
  | [], m => rfl
  | j :: l, m => by
    simp only [Mem.fix]
    rw [fix_box l]
    split <;> rfl

theorem run_storeVar {P : Program} {w : World} {t : TypeId} {fi : TypeInfo} (hfi : P.info? t = some fi) {g off : Nat} {ty : TypeId} {cur : Array Value} (hg : w.heap[g]? = some (.cells cur ty (0, 0))) {v : Value} (hs : v.cells.size = fi.size) (hle : off + v.cells.size ≤ cur.size) (h1 : ∀ u ∈ v.cells.toList, u.oneCell' = true) :
    (Instr.storeAt t (.pointer (some ⟨g, off, none⟩)) v).run P w = .ok () (w.setRow g (cur.toList.take off ++ v.cells.toList ++ cur.toList.drop (off + v.cells.size)).toArray) := by
  have hst := run_storeCells_at P g off ty v.cells.toList 0 cur w hg (by simpa using hle) h1
  simp only [Nat.add_zero, Array.length_toList] at hst
  simp only [Instr.storeAt, Instr.sureAddr, storeVar, Sem.run_bind, Sem.run_pure, Result.andThen_ok, run_sizeOf hfi, hs, ne_eq, not_true_eq_false, if_false]
  simpa [hs] using hst
theorem grownBy_setRow (w : World) (g : Nat) (cs : Array Value) : w.grownBy (w.setRow g cs) (some g) :=
  ⟨rfl, rfl, rfl, by simp, fun k _ hk => setRow_other w g k cs (fun e => hk (by rw [e]))⟩

/-- Where a part of an element is put into a row's cells. -/
theorem put_elem {α : Type} {cs us vs : List α} {s i off : Nat} (hus : us.length = s) (hle : i * s + s ≤ cs.length) (hu : ∀ (j : Nat) u, us[j]? = some u → cs[i * s + j]? = some u) (hoff : off + vs.length ≤ s) :
    cs.take (i * s + off) ++ vs ++ cs.drop (i * s + off + vs.length) = cs.take (i * s) ++ (us.take off ++ vs ++ us.drop (off + vs.length)) ++ cs.drop (i * s + s) := by
  have he : us = (cs.drop (i * s)).take s := by
    apply List.ext_getElem?
    intro j
    by_cases hj : j < s
    · have h1 : j < us.length := by omega
      rw [List.getElem?_take, if_pos hj, List.getElem?_drop, List.getElem?_eq_getElem h1, hu j _ (List.getElem?_eq_getElem h1)]
    · rw [List.getElem?_eq_none (by omega), List.getElem?_eq_none (by simp; omega)]
  subst he
  apply List.ext_getElem?
  intro k
  by_cases h1 : k < i * s
  · rw [List.append_assoc, List.getElem?_append_left (by simp; omega), List.append_assoc, List.getElem?_append_left (by simp; omega), List.getElem?_take, List.getElem?_take, if_pos (by omega), if_pos h1]
  · by_cases h2 : k < i * s + off
    · rw [List.append_assoc, List.getElem?_append_left (by simp; omega), List.append_assoc, List.getElem?_append_right (by simp; omega), List.append_assoc, List.append_assoc, List.getElem?_append_left (by simp; omega)]
      simp only [List.getElem?_take, List.getElem?_drop, List.length_take]
      rw [if_pos h2, if_pos (by omega), if_pos (by omega)]
      congr 1
      omega
    · by_cases h3 : k < i * s + off + vs.length
      · rw [List.append_assoc, List.getElem?_append_right (by simp; omega), List.getElem?_append_left (by simp; omega), List.append_assoc, List.getElem?_append_right (by simp; omega), List.append_assoc, List.append_assoc, List.getElem?_append_right (by simp; omega), List.getElem?_append_left (by simp; omega)]
        simp only [List.length_take, List.length_drop]
        congr 1
        omega
      · by_cases h4 : k < i * s + s
        · rw [List.getElem?_append_right (by simp; omega), List.append_assoc, List.getElem?_append_right (by simp; omega), List.getElem?_append_left (by simp; omega), List.getElem?_append_right (by simp; omega)]
          simp only [List.getElem?_take, List.getElem?_drop, List.length_take, List.length_append, List.length_drop]
          rw [if_pos (by omega)]
          congr 1
          omega
        · rw [List.getElem?_append_right (by simp; omega), List.getElem?_append_right (by simp; omega)]
          simp only [List.getElem?_drop, List.length_take, List.length_append, List.length_drop]
          congr 1
          omega

section
variable {P : Program} {B : Nat} {w0 : World} {Γ : Gh} {m : Mem} (M : MemRel B w0 Γ m) {tb : Tb} (HT : TbOk P tb)
include M HT
theorem store_ok {t : Nat} {a x r : AV} {va vx : Value} {m' : Mem} (h : kStore tb m pairK t a x = some (r, m')) (ha : RepV Γ a va) (hx : RepV Γ x vx) :
    r = .tup [] ∧ ∃ Γ', Ext B Γ Γ' ∧ MemRel B w0 Γ' m' ∧ (Instr.storeAt t va vx).run P Γ.w = .ok () Γ'.w := by
  unfold kStore at h
  split at h
  · rename_i id off
    split at h
    · rename_i cs hb
      split at h
      · rename_i vs hvs
        obtain ⟨hn, h⟩ := cond_some h
        split at h
        · rename_i cs' hput
          obtain ⟨rfl, rfl⟩ := pairK_some h
          obtain ⟨hv1, hv2, _⟩ := cellsK_rep hvs hx
          simp only [Bool.and_eq_true] at hn
          have hn' := Nat.eq_of_beq_eq_true hn.1
          have hz : 0 < (tb.at t).size := by have := hn.2; simp only [Nat.blt, Nat.ble_eq] at this; omega
          have hlen := hv1.len
          simp only [RepV] at ha
          obtain ⟨blk, hμ, rfl⟩ := ha
          obtain ⟨us, ty, hcell, hl⟩ := (M.boxAt hμ hb).cells
          obtain ⟨hle, hr⟩ := putPart_rep hput hv1 hl
          · obtain ⟨⟨fi, z, hfi, _, hfs, _⟩, _⟩ := at_size HT hz
            have hrun := run_storeVar (P := P) (t := t) hfi hcell (v := vx) (off := off) (by rw [hfs, ← hn', ← hlen, Array.length_toList]) (by simpa using hle) hv2
            obtain ⟨M', E'⟩ := M.setBox hμ hb rfl (grownBy_setRow Γ.w blk _) (setRow_heap Γ.w blk us (us.toList.take off ++ vx.cells.toList ++ us.toList.drop (off + vx.cells.size)).toArray ty (0, 0) hcell) (cs := cs') (by rw [List.toList_toArray]; simpa using hr)
            exact ⟨rfl, _, E', M', hrun⟩
        · cases h
      · cases h
    · cases h
  · rename_i id e0 i off
    split at h
    · rename_i e xs et hrow
      split at h
      · rename_i vs hvs
        obtain ⟨hn, h⟩ := cond_some h
        split at h
        · rename_i cs' hput
          split at h
          · rename_i y hy
            obtain ⟨hc, h⟩ := cond_some h
            obtain ⟨rfl, rfl⟩ := pairK_some h
            simp only [Bool.and_eq_true, Bool.not_eq_true'] at hc hn
            have hn' := Nat.eq_of_beq_eq_true hn.1.1
            have hsz : e0.size = e.size := Nat.eq_of_beq_eq_true hn.1.2
            have hz : 0 < (tb.at t).size := by have := hn.2; simp only [Nat.blt, Nat.ble_eq] at this; omega
            obtain ⟨R', M1, E1, hR'⟩ := M.fixL (rowsA m x)
            have L : Lends Γ { Γ with R := R' } m (rowsA m x) (ptrsA x) := ⟨rfl, E1.R, fun b hb => (hR' b).2 (.inr hb), fun i hi => by rw [ptrs_none hc.2] at hi; cases hi⟩
            have hxl := lend_rep M L hx
            obtain ⟨hv1, hv2, _⟩ := cellsK_rep hvs hxl
            have hlen := hv1.len
            simp only [RepV] at ha
            obtain ⟨g, n, c, hν, hi, rfl⟩ := ha
            have hrow1 : (m.fix (rowsA m x)).row id = some ⟨e, xs, et, .own⟩ := by rw [fix_other _ _ hc.1]; exact hrow
            have hd' : (⟨e, xs, et, .own⟩ : RowA).st ≠ .dead := fun e => by cases e
            have hrr := M1.rowAt (Γ := { Γ with R := R' }) hν hrow1 hd'
            obtain ⟨cs, ho, hR0⟩ := hrr.own
            obtain ⟨A, c', he⟩ := rowShape ho
            injection he with _ hnn _
            subst hnn
            dsimp only at ho hR0 hi
            obtain ⟨us, hus, hcs⟩ := hR0 _ _ (rdD_at e.dflt xs i hi)
            obtain ⟨hle, hr⟩ := putPart_rep hput hv1 hus.cells
            obtain ⟨us1, ws, hue, hut, hwr⟩ := dec_rep hy hr
            simp only [RepL] at hwr
            subst hwr
            rw [List.append_nil] at hue
            have huslen := hus.len
            have hcl := ho.1
            have hile : i.toNat * e.size + e.size ≤ cs.length := by
              rw [hcl, ← Nat.succ_mul]
              exact Nat.mul_le_mul_right _ hi
            · obtain ⟨⟨fi, z, hfi, _, hfs, _⟩, _⟩ := at_size HT hz
              rcases ho.2 with ⟨hh, _⟩ | ⟨g', cap, cur, hh, hb, hg, hnc, hcm, hcsz, htake⟩
              · cases hh
              · simp only [Value.slice.injEq, Option.some.injEq, Addr.mk.injEq, and_true, true_and] at hh
                obtain ⟨rfl, rfl⟩ := hh
                have hcurlen : List.length (α := e.T) xs * e.size ≤ cur.size := by rw [hcsz]; exact Nat.mul_le_mul_right _ hnc
                have hvsz : (vx.cells.toList).length = vx.cells.size := by simp
                have hrun := run_storeVar (P := P) (t := t) hfi hg (v := vx) (off := i.toNat * e.size + off) (by rw [hfs, ← hn', ← hlen, Array.length_toList]) (by omega) hv2
                have hput' := put_elem (cs := cs) (us := us) (vs := vx.cells.toList) (s := e.size) (i := i.toNat) (off := off) huslen hile hcs (by omega)
                have hR1 := repR_set hR0 hcl hut hi
                rw [← hue, ← hput'] at hR1
                rw [hvsz] at hput' hR1
                have hle2 : i.toNat * e.size + off + vx.cells.size ≤ List.length (α := e.T) xs * e.size := by omega
                have htk : (cur.toList.take (i.toNat * e.size + off) ++ vx.cells.toList ++ cur.toList.drop (i.toNat * e.size + off + vx.cells.size)).take (List.length (α := e.T) xs * e.size) = cs.take (i.toNat * e.size + off) ++ vx.cells.toList ++ cs.drop (i.toNat * e.size + off + vx.cells.size) := by
                  rw [← htake, List.take_append, List.take_append, List.take_take, List.take_take, List.take_drop]
                  have h1 : (cur.toList.take (i.toNat * e.size + off)).length = i.toNat * e.size + off := by simp; omega
                  rw [List.length_append, h1, hvsz, List.take_of_length_le (l := vx.cells.toList) (by omega)]
                  congr 1
                  · congr 2 <;> omega
                  · congr 2
                    omega
                obtain ⟨M2, E2⟩ := M1.setRow (Γ := { Γ with R := R' }) hν hrow1 rfl rfl (w' := Γ.w.setRow g (cur.toList.take (i.toNat * e.size + off) ++ vx.cells.toList ++ cur.toList.drop (i.toNat * e.size + off + vx.cells.size)).toArray) (grownBy_setRow Γ.w g _) (xs := stL xs i y) ⟨_, ⟨by rw [← htk, List.length_take]; simp [stL]; omega, .inr ⟨g, c, _, by simp [stL], hb, setRow_heap Γ.w g cur _ et (0, 0) hg, by simpa [stL] using hnc, hcm, by rw [List.size_toArray, put_length cur.toList vx.cells.toList _ _ hvsz (by simp; omega), Array.length_toList, hcsz], by rw [List.toList_toArray]; simpa [stL] using htk⟩⟩, hR1⟩
                rw [hsz]
                exact ⟨rfl, _, E1.trans E2, M2, hrun⟩
          · cases h
        · cases h
      · cases h
    · cases h
  · cases h
end
end Go.Proofs.Ytebokfdiamepcaa.AM
