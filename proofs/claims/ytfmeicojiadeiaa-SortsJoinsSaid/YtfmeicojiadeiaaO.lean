/- Arguments laid open: from the row's reading of an argument as data to the print's reading of it as a list, a struct, a number. -/
import Derived.Test.YtfmeicojiadeiaaV
import Derived.Deep.Slices
import Derived.Deep.Strs
import Derived.OpenShut
import Derived.ProofKit
namespace Go.Proofs.YtfmeicojiadeiaaW.PrintMore
open Go.RowKit Go.Proofs.YtfmeicojiadeiaaW.PrintWords Go.Proofs.YtfmeicojiadeiaaW.PrintLast Go.ChangeShapes Go.WideShapes Go.Deep

section
variable {H : Type} {enc : TypeId × Value → H} {P : Program} {W : World} {base : Nat} {spare : Nat → Bool} {held : Bool}
/-- Whatever reads as data of type t reads as k, and g holds of it. -/
def Opn {H : Type} (enc : TypeId × Value → H) (P : Program) (W : World) (base : Nat) (spare : Nat → Bool) (held : Bool) (t : TypeId) {α : Type} (k : Kd α) (g : α → Prop) : Prop :=
  ∀ (fuel : Nat) (cs : List Value) (x : DataW H × List MemPlace), DataW.trod enc P W base spare held fuel t cs = some x → ∃ a : α, k.K W a cs ∧ g a

theorem opn_int {t : TypeId} {ik : IntKind} (ht : P.underlying t = some (.int ik)) : Opn enc P W base spare held t (Kd.int ik) (fun a => (Lit.int ik a).wf = true) := by
  intro fuel cs x h
  obtain ⟨n, rfl, _, hw⟩ := DataW.trod_int ht h
  exact ⟨n, rfl, hw⟩
theorem opn_bool {t : TypeId} (ht : P.underlying t = some .bool) : Opn enc P W base spare held t Kd.bool (fun _ => True) := by
  intro fuel cs x h
  cases fuel with
  | zero => simp [DataW.trod] at h
  | succ n =>
    unfold DataW.trod at h
    rw [ht] at h
    split at h
    all_goals first
      | exact ⟨_, rfl, trivial⟩
      | simp_all
theorem opn_iso {t : TypeId} {α β : Type} {k : Kd α} {f : β → α} (fi : α → β) (hf : ∀ a, f (fi a) = a) {g : α → Prop} (h : Opn enc P W base spare held t k g) : Opn enc P W base spare held t (Kd.iso k f) (fun b => g (f b)) := by
  intro fuel cs x hx
  obtain ⟨a, ha, hg⟩ := h fuel cs x hx
  exact ⟨fi a, (by show k.K W (f (fi a)) cs; rw [hf]; exact ha), (by show g (f (fi a)); rw [hf]; exact hg)⟩
theorem opn_struct2 {t : TypeId} {f0 f1 : Field} {α β : Type} {a : Kd α} {b : Kd β} {ga : α → Prop} {gb : β → Prop} (ht : P.underlying t = some (.struct #[f0, f1])) (hC : P.cellsOf t = a.sz + b.sz) (h00 : f0.offset = 0) (hs0 : P.cellsOf f0.type = a.sz) (h10 : f1.offset = a.sz) (hs1 : P.cellsOf f1.type = b.sz)
    (ha : Opn enc P W base spare held f0.type a ga) (hb : Opn enc P W base spare held f1.type b gb) : Opn enc P W base spare held t (Kd.pair a b) (fun x => ga x.1 ∧ gb x.2) := by
  intro fuel cs x hx
  obtain ⟨y0, y1, n, _, hl, h0, h1⟩ := trod_struct2 ht hx
  obtain ⟨u, hu, gu⟩ := ha _ _ _ h0
  obtain ⟨v, hv, gv⟩ := hb _ _ _ h1
  rw [h00, hs0, List.drop_zero] at hu
  rw [h10, hs1] at hv
  refine ⟨(u, v), ⟨cs.take a.sz, (cs.drop a.sz).take b.sz, ?_, hu, hv⟩, gu, gv⟩
  rw [List.take_of_length_le (l := cs.drop a.sz) (by rw [List.length_drop]; omega), List.take_append_drop]
theorem opn_struct3 {t : TypeId} {f0 f1 f2 : Field} {α β γ : Type} {a : Kd α} {b : Kd β} {c : Kd γ} {ga : α → Prop} {gb : β → Prop} {gc : γ → Prop} (ht : P.underlying t = some (.struct #[f0, f1, f2])) (hC : P.cellsOf t = a.sz + (b.sz + c.sz)) (h00 : f0.offset = 0) (hs0 : P.cellsOf f0.type = a.sz) (h10 : f1.offset = a.sz) (hs1 : P.cellsOf f1.type = b.sz) (h20 : f2.offset = a.sz + b.sz) (hs2 : P.cellsOf f2.type = c.sz)
    (ha : Opn enc P W base spare held f0.type a ga) (hb : Opn enc P W base spare held f1.type b gb) (hc : Opn enc P W base spare held f2.type c gc) : Opn enc P W base spare held t (Kd.pair a (Kd.pair b c)) (fun x => ga x.1 ∧ gb x.2.1 ∧ gc x.2.2) := by
  intro fuel cs x hx
  obtain ⟨y0, y1, y2, n, _, hl, h0, h1, h2⟩ := trod_struct3 ht hx
  obtain ⟨u, hu, gu⟩ := ha _ _ _ h0
  obtain ⟨v, hv, gv⟩ := hb _ _ _ h1
  obtain ⟨z, hz, gz⟩ := hc _ _ _ h2
  rw [h00, hs0, List.drop_zero] at hu
  rw [h10, hs1] at hv
  rw [h20, hs2] at hz
  refine ⟨(u, v, z), ⟨cs.take a.sz, cs.drop a.sz, (List.take_append_drop ..).symm, hu, (cs.drop a.sz).take b.sz, (cs.drop a.sz).drop b.sz, (List.take_append_drop ..).symm, hv, ?_⟩, gu, gv, gz⟩
  rw [List.drop_drop]
  rwa [List.take_of_length_le (by rw [List.length_drop]; omega)] at hz
theorem opn_array2 {t e : TypeId} {α : Type} {a : Kd α} {g : α → Prop} (ht : P.underlying t = some (.array 2 e)) (hC : P.cellsOf t = a.sz + a.sz) (hs : P.cellsOf e = a.sz) (ha : Opn enc P W base spare held e a g) : Opn enc P W base spare held t (Kd.pair a a) (fun x => g x.1 ∧ g x.2) := by
  intro fuel cs x hx
  obtain ⟨xs, m, _, _, hl, hn, h⟩ := DataW.trod_array ht hx
  have h0 := h 0 (by omega)
  have h1 := h 1 (by omega)
  rw [List.getElem?_eq_getElem (by omega)] at h0 h1
  obtain ⟨u, hu, gu⟩ := ha _ _ _ h0
  obtain ⟨v, hv, gv⟩ := ha _ _ _ h1
  rw [hs, Nat.zero_mul, List.drop_zero] at hu
  rw [hs, Nat.one_mul] at hv
  refine ⟨(u, v), ⟨cs.take a.sz, (cs.drop a.sz).take a.sz, ?_, hu, hv⟩, gu, gv⟩
  rw [List.take_of_length_le (l := cs.drop a.sz) (by rw [List.length_drop]; omega), List.take_append_drop]
theorem opn_slice {t e : TypeId} {α : Type} {k : Kd α} {g : α → Prop} (ht : P.underlying t = some (.slice e)) (hs : P.cellsOf e = k.sz) (hk : Opn enc P W base spare held e k g) : Opn enc P W base spare held t (Kd.slice e k) (fun l => l.length ≤ 9223372036854775807 ∧ ∀ a ∈ l, g a) := by
  intro fuel cs x hx
  rcases open_slice ht hx with ⟨rfl, _⟩ | ⟨a, len, cap, m, n, D, Pl, rfl, hb, hl, hm, hmm, _, hel⟩
  · exact ⟨[], ⟨none, 0, rfl, Nat.le_refl _, Kd.C_nil k W⟩, by simp, by simp⟩
  · have hlm : len ≤ m := by rw [hmm]; split <;> omega
    have hex : ∀ i, i < len → ∃ y : α, ∃ cs', W.cells? base (a.add (i * k.sz)) k.sz = some cs' ∧ k.K W y cs' ∧ g y := by
      intro i hi
      obtain ⟨cs', h1, h2⟩ := hel i (by omega)
      obtain ⟨y, hy, gy⟩ := hk _ _ _ h2
      rw [hs] at h1
      exact ⟨y, cs', h1, hy, gy⟩
    have hlist : ∃ l : List α, l.length = len ∧ ∀ i y, l[i]? = some y → ∃ cs', W.cells? base (a.add (i * k.sz)) k.sz = some cs' ∧ k.K W y cs' ∧ g y := by
      clear hel hmm hlm hl hx
      rename_i hxx
      clear hxx
      induction len with
      | zero => exact ⟨[], rfl, by simp⟩
      | succ q ih =>
        obtain ⟨l, hl, h⟩ := ih (fun i hi => hex i (by omega))
        obtain ⟨y, hy⟩ := hex q (by omega)
        refine ⟨l ++ [y], by simp [hl], ?_⟩
        intro i z hz
        by_cases hi : i < q
        · rw [List.getElem?_append_left (by omega)] at hz
          exact h i z hz
        · have hiq : i = q := by
            have := (List.getElem?_eq_some_iff.1 hz).1
            simp at this
            omega
          subst hiq
          rw [List.getElem?_append_right (by omega), hl] at hz
          simp at hz
          subst hz
          exact hy
    obtain ⟨l, hll, h⟩ := hlist
    refine ⟨l, ⟨some a, cap, by rw [hll], by rw [hll]; exact hl, ⟨rfl, ?_, fun _ => ⟨a, rfl, fun j y hj => ?_⟩⟩⟩, by rw [hll]; unfold maxLen at hm; omega, ?_⟩
    · rw [hll]; unfold maxLen at hm; omega
    · obtain ⟨cs', h1, h2, _⟩ := h j y hj
      refine ⟨cs', k.K_len h2, h2, fun i u hi => ?_⟩
      have hil : i < k.sz := by have := (List.getElem?_eq_some_iff.1 hi).1; have := k.K_len h2; omega
      have := (World.cells?_some h1).2.2 i hil
      rw [Deep.add_add, hi] at this
      exact this
    · intro y hy
      obtain ⟨j, hj⟩ := List.mem_iff_getElem?.1 hy
      obtain ⟨_, _, _, gy⟩ := h j y hj
      exact gy
/-- An argument whose value is one cell. -/
theorem opn_top {t : TypeId} {α : Type} {k : Kd α} {g : α → Prop} (hk : Opn enc P W base spare held t k g) {v : Value} {d : DataW H} {ps : List MemPlace} (h : DataW.Trod enc P W base spare held t v d ps) : ∃ a : α, k.K W a v.cells.toList ∧ g a := by
  obtain ⟨fuel, hf⟩ := h
  exact hk _ _ _ hf
end
end Go.Proofs.YtfmeicojiadeiaaW.PrintMore
