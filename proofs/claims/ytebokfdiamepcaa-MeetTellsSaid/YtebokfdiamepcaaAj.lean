/- The abstract machine, 26: a body. -/
import Derived.Test.YtebokfdiamepcaaAi
import Derived.LoopN
set_option linter.unusedVariables false
set_option linter.unusedSimpArgs false
namespace Go.Proofs.Ytebokfdiamepcaa.AM
open Go.RowKit

structure KOk (B : Nat) (w0 : World) (Γ0 : Gh) (n : Nat) {ρ : Type} (K : KS ρ) (r : ρ) (Q : Exit → Act → World → Prop) : Prop where
  norm : ∀ s a w, K.norm s = some r → Inv B w0 Γ0 n s a w → Q .normal a w
  ex : ∀ id s a w, K.ex id s = some r → Inv B w0 Γ0 n s a w → Q (.exit id) a w
  ret : ∀ s a w, K.ret s = some r → Inv B w0 Γ0 n s a w → Q .ret a w

section
variable {P : Program} {tb : Tb} (HT : TbOk P tb) {cl : ∀ ρ, CallT ρ} (hcl : CallB cl) (hcc : CallC cl) (hok : CallOk P cl) (hmix : P.follows .mixedOrders = true) {B : Nat} {w0 : World} {Γ0 : Gh} (h0 : Bare Γ0) {n : Nat} {ρ : Type} {N : Nat}

include h0 in
theorem jn_ok {j : Option Cut} {K : KS ρ} {f : KS ρ → Option ρ} {r : ρ} {Q : Exit → Act → World → Prop} (h : jn j K f = some r) (hK : KOk B w0 Γ0 n K r Q) : ∃ K', f K' = some r ∧ KOk B w0 Γ0 n K' r Q := by
  cases j with
  | none => exact ⟨K, h, hK⟩
  | some c =>
    refine ⟨_, h, ⟨fun s a w hs I => ?_, hK.ex, hK.ret⟩⟩
    obtain ⟨x, hx, I'⟩ := cut_inv h0 hs I
    exact hK.norm _ a w hx I'
theorem litO_same {s : St} {x : Operand} {b : Bool} (h : s.ev x = .bool b) : s.litO x b = s := by
  cases x with
  | tmp d => exact lit_same h
  | _ => rfl
theorem br_some {α : Type} {b : Bool} {x y : Option α} {r : α} (h : br b x y = some r) : (if b then x else y) = some r := by cases b <;> exact h

include HT hcl hcc hok hmix h0
theorem evalC_ok : ∀ (c : Code) (an : Ann) {s : St} {K : KS ρ} {r : ρ} {Q : Exit → Act → World → Prop} {a : Act} {w : World}, codeB tb n c = true → evalC (cl ρ) tb N c an s K = some r → Inv B w0 Γ0 n s a w → KOk B w0 Γ0 n K r Q → c.wp P Q a w := by
  intro c
  induction c with
  | skip =>
    intro an s K r Q a w hb h I hK
    unfold evalC at h
    obtain ⟨K', h, hK'⟩ := jn_ok h0 h hK
    exact wp_skip (hK'.norm s a w h I)
  | region id ops dr =>
    intro an s K r Q a w hb h I hK
    unfold evalC at h
    obtain ⟨K', h, hK'⟩ := jn_ok h0 h hK
    rw [opsK_b hcl] at h
    cases hr : runD cl tb ops ops.toList s.tick with
    | none => rw [hr] at h; cases h
    | some sf =>
      rw [hr] at h
      exact region_wp HT hcl hcc hok hmix (regB_ok hb) hr I.tick fun a' w' I' => hK'.norm sf a' w' h I'
  | seq x y ihx ihy =>
    intro an s K r Q a w hb h I hK
    unfold evalC at h
    obtain ⟨K', h, hK'⟩ := jn_ok h0 h hK
    simp only [codeB, Bool.and_eq_true] at hb
    refine wp_seq (ihx an.l hb.1 h I ⟨fun s' a' w' hs I' => ihy an.r hb.2 hs I' hK', fun id s' a' w' hs I' => hK'.ex id s' a' w' hs I', fun s' a' w' hs I' => hK'.ret s' a' w' hs I'⟩)
  | cond c x y ihx ihy =>
    intro an s K r Q a w hb h I hK
    unfold evalC at h
    obtain ⟨K', h, hK'⟩ := jn_ok h0 h hK
    simp only [codeB, Bool.and_eq_true] at hb
    split at h
    · rename_i t ht
      obtain ⟨⟨Γ, rfl, _, _, hr⟩, _⟩ := id I
      have hev := ev_rep hr c
      rw [ht] at hev
      simp only [RepV] at hev
      have h := br_some h
      cases t with
      | true => 
        rw [litO_same ht] at h
        exact wp_cond_true hev (ihx an.l hb.1 h I hK')
      | false =>
        simp only [Bool.false_eq_true, if_false] at h
        rw [litO_same ht] at h
        exact wp_cond_false hev (ihy an.r hb.2 h I hK')
    · cases h
  | block id c ih =>
    intro an s K r Q a w hb h I hK
    unfold evalC at h
    obtain ⟨K', h, hK'⟩ := jn_ok h0 h hK
    refine wp_block (ih an.l hb h I ⟨fun s' a' w' hs I' => hK'.norm s' a' w' hs I', fun j s' a' w' hs I' => ?_, fun s' a' w' hs I' => hK'.ret s' a' w' hs I'⟩)
    show if j = id then Q .normal a' w' else Q (.exit j) a' w'
    replace hs : cond (Nat.beq j id) (K'.norm s') (K'.ex j s') = some r := hs
    cases hj : Nat.beq j id with
    | true =>
      rw [hj] at hs
      rw [if_pos (Nat.eq_of_beq_eq_true hj)]
      exact hK'.norm s' a' w' hs I'
    | false =>
      rw [hj] at hs
      rw [if_neg (fun e => by rw [e, Nat.beq_refl] at hj; cases hj)]
      exact hK'.ex j s' a' w' hs I'
  | loop c ih =>
    intro an s K r Q a w hb h I hK
    unfold evalC at h
    obtain ⟨K', h, hK'⟩ := jn_ok h0 h hK
    split at h
    · rename_i ct hlp
      obtain ⟨x, hx, I'⟩ := cut_inv h0 h I
      have key : ∀ (q : Nat) (x : ct.T) (a : Act) (w : World), loopN (fun x next => evalC (cl ρ) tb N c an.l (encS ct x) { K' with norm := fun s' => decS ct s' next }) q x = some r → Inv B w0 Γ0 n (encS ct x) a w → Code.rounds P c Q q a w := by
        intro q
        induction q with
        | zero => intro x a w h _; cases h
        | succ q ihq =>
          intro x a w h I
          refine ih an.l hb h I ⟨fun s' a' w' hs I' => ?_, hK'.ex, hK'.ret⟩
          obtain ⟨y, hy, I''⟩ := cut_inv h0 hs I'
          exact ihq y a' w' hy I''
      exact wp_loop_rounds N (key N x a w hx I')
    · have key : ∀ (q : Nat) (s : St) (a : Act) (w : World), loopN (fun s next => evalC (cl ρ) tb N c an.l s { K' with norm := next }) q s = some r → Inv B w0 Γ0 n s a w → Code.rounds P c Q q a w := by
        intro q
        induction q with
        | zero => intro x a w h _; cases h
        | succ q ihq =>
          intro x a w h I
          exact ih an.l hb h I ⟨fun s' a' w' hs I' => ihq s' a' w' hs I', hK'.ex, hK'.ret⟩
      exact wp_loop_rounds 32 (key 32 s a w h I)
  | exit id =>
    intro an s K r Q a w hb h I hK
    unfold evalC at h
    exact wp_exit (hK.ex id s a w h I)
  | ret =>
    intro an s K r Q a w hb h I hK
    unfold evalC at h
    exact wp_ret (hK.ret s a w h I)
  | rangeFunc => intro an s K r Q a w hb h; unfold evalC at h; cases h
  | scope => intro an s K r Q a w hb h; unfold evalC at h; cases h
  | label => intro an s K r Q a w hb h; unfold evalC at h; cases h
  | goto => intro an s K r Q a w hb h; unfold evalC at h; cases h
  | refuse => intro an s K r Q a w hb h; unfold evalC at h; cases h
end
end Go.Proofs.Ytebokfdiamepcaa.AM
