/- The reference's answer what two segments have in common. -/
import Derived.Test.YtpkkcjmblocjdaaGreatH21
import Derived.Test.YtpkkcjmblocjdaaGreatH6
set_option linter.unusedVariables false
set_option linter.unusedSimpArgs false
set_option linter.unusedSectionVars false
namespace Go.Proofs.YtpkkcjmblocjdaaGreat.Pure
open Go.RowKit Go.Proofs.YtpkkcjmblocjdaaGreat.AM
def inn (a b c d:Pt):Nat:=[decide (On a b c),decide (On a b d),decide (On c d a)&&!decide (a=c)&&!decide (a=d),decide (On c d b)&&!decide (b=c)&&!decide (b=d)].count true
def zxp (a b c d:Pt):Int :=
 if ori a b c=0∧ori a b d=0 then if inn a b c d≥2 then 4 else if inn a b c d=1 then 1 else 0
 else if KT a b c d≠0 then 1 else if ons a b c d≠0 then 2
 else if ori a b c≠ori a b d∧ori c d a≠ori c d b then 3 else 0
def zrq (a b c d:Pt):Int×Int:=if Bad a b c d then (0,2) else (zxp a b c d,0)
theorem zym (m:Nat) (a b c d:Pt):jQ (m+100) a b c d=some (zrq a b c d):=by
 unfold jQ Kk
 simp only [Ye,zx,eqP]
 simp only [zuB,zm7,zu8,zr]
 unfold zrq
 by_cases h1:a=b
 ·rw [zk h1];simp only [cT];rw [if_pos (show Bad a b c d from Or.inl h1)]
 rw [zg h1]
 by_cases h2:c=d
 ·rw [zk h2];simp only [cT];rw [if_pos (show Bad a b c d from Or.inr (Or.inl h2))]
 rw [zg h2]
 by_cases f1:Fit a
 case neg=>rw [if_pos (show Bad a b c d from Or.inr (Or.inr (fun h=>f1 h.1))),decide_eq_false f1];rfl
 by_cases f2:Fit b
 case neg=>rw [if_pos (show Bad a b c d from Or.inr (Or.inr (fun h=>f2 h.2.1))),decide_eq_true f1,decide_eq_false f2];rfl
 by_cases f3:Fit c
 case neg=>rw [if_pos (show Bad a b c d from Or.inr (Or.inr (fun h=>f3 h.2.2.1))),decide_eq_true f1,decide_eq_true f2,decide_eq_false f3];rfl
 by_cases f4:Fit d
 case neg=>rw [if_pos (show Bad a b c d from Or.inr (Or.inr (fun h=>f4 h.2.2.2))),decide_eq_true f1,decide_eq_true f2,decide_eq_true f3,decide_eq_false f4];rfl
 have hb:¬Bad a b c d:=by rintro (h|h|h);exact h1 h;exact h2 h;exact h ⟨f1,f2,f3,f4⟩
 rw [if_neg hb,decide_eq_true f1,decide_eq_true f2,decide_eq_true f3,decide_eq_true f4]
 simp only [Bool.not_true,cF]
 unfold zxp
 by_cases hx:ori a b c=0∧ori a b d=0
 ·rw [if_pos hx,zk hx.1,decide_eq_true hx.2]
  simp only [cT]
  unfold inn
  generalize decide (On a b c)=o1
  generalize decide (On a b d)=o2
  generalize decide (On c d a)=o3
  generalize decide (On c d b)=o4
  generalize decide (a=c)=ac
  generalize decide (a=d)=ad
  generalize decide (b=c)=bc
  generalize decide (b=d)=bd
  clear h1 h2 f1 f2 f3 f4 hb hx
  revert o1 o2 o3 o4 ac ad bc bd
  decide +kernel
 ·rw [if_neg hx]
  have hq:∀p q:Prop,[Decidable p]→[Decidable q]→(if ¬p∧¬q then (3:Int) else 0)=bif !decide p&&!decide q then 3 else 0:=by
   intro p q _ _;by_cases hp:p<;>by_cases hq:q<;>simp [hp,hq]
  rw [hq]
  by_cases h0:ori a b c=0
  ·rw [zk h0,decide_eq_false fun h'=>hx ⟨h0,h'⟩]
   simp only [cF]
   unfold KT ons
   generalize decide (On a b c)=o1
   generalize decide (On a b d)=o2
   generalize decide (On c d a)=o3
   generalize decide (On c d b)=o4
   generalize decide (a=c)=ac
   generalize decide (a=d)=ad
   generalize decide (b=c)=bc
   generalize decide (b=d)=bd
   generalize decide (ori a b c=ori a b d)=e1
   generalize decide (ori c d a=ori c d b)=e2
   clear h0 h1 h2 f1 f2 f3 f4 hb hx hq
   revert o1 o2 o3 o4 ac ad bc bd e1 e2
   decide +kernel
  ·rw [zg h0]
   unfold KT ons
   generalize decide (On a b c)=o1
   generalize decide (On a b d)=o2
   generalize decide (On c d a)=o3
   generalize decide (On c d b)=o4
   generalize decide (a=c)=ac
   generalize decide (a=d)=ad
   generalize decide (b=c)=bc
   generalize decide (b=d)=bd
   generalize decide (ori a b c=ori a b d)=e1
   generalize decide (ori c d a=ori c d b)=e2
   clear h0 h1 h2 f1 f2 f3 f4 hb hx hq
   revert o1 o2 o3 o4 ac ad bc bd e1 e2
   decide +kernel
end Go.Proofs.YtpkkcjmblocjdaaGreat.Pure
