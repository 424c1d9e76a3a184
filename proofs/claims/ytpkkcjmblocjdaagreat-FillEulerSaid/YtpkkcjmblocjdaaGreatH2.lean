/- On which side a place lies: what the functions come to. -/
import Derived.Test.YtpkkcjmblocjdaaGreatH1
set_option linter.unusedVariables false
set_option linter.unusedSimpArgs false
set_option linter.unusedSectionVars false
namespace Go.Proofs.YtpkkcjmblocjdaaGreat.Pure
open Go.RowKit Go.Proofs.YtpkkcjmblocjdaaGreat.AM
theorem w3:w64 (3-1)=2:=by decide
theorem w2:w64 (2-1)=1:=by decide
theorem w1:w64 (1-1)=0:=by decide
theorem w0:w64 (0-1)=-1:=by decide
def lex (a0 a1 b0 b1:Int):Int:=if a1=b1 then if a0=b0 then 0 else cmp a0 b0 else cmp a1 b1
theorem zpx (m:Nat) (a0 a1 b0 b1:Int):Xx (m+5) (a0,a1,0,0) (b0,b1,0,0)=some (lex a0 a1 b0 b1):=by
 have d30:(3:Int)≥0:=by decide
 have d20:(2:Int)≥0:=by decide
 have d10:(1:Int)≥0:=by decide
 have d00:(0:Int)≥0:=by decide
 have n30:¬(3:Int)=0:=by decide
 have n31:¬(3:Int)=1:=by decide
 have n32:¬(3:Int)=2:=by decide
 have n20:¬(2:Int)=0:=by decide
 have n21:¬(2:Int)=1:=by decide
 have n10:¬(1:Int)=0:=by decide
 have nm:¬(-1:Int)≥0:=by decide
 unfold Xx zeE
 rw [q6]
 simp only [decide_eq_true d30,decide_eq_false n30,decide_eq_false n31,decide_eq_false n32,decide_true,Bool.not_true,cond,w3]
 rw [q6]
 simp only [decide_eq_true d20,decide_eq_false n20,decide_eq_false n21,decide_true,Bool.not_true,cond,w2]
 rw [q6]
 simp only [decide_eq_true d10,decide_eq_false n10,decide_true,cond,w1]
 by_cases h:a1=b1
 ·simp only [decide_eq_true h,Bool.not_true,cond]
  rw [q6]
  simp only [decide_eq_true d00,decide_true,cond,w0]
  by_cases h0:a0=b0
  ·simp only [decide_eq_true h0,Bool.not_true,cond]
   rw [q6]
   simp only [decide_eq_false nm,cond]
   simp [lex,h,h0]
  ·simp only [decide_eq_false h0,Bool.not_false,cond,zf6,zr]
   simp [lex,h,h0]
 ·simp only [decide_eq_false h,Bool.not_false,cond,zf6,zr]
  simp [lex,h]
theorem zmE {k:Nat} {a b:Int} (ha:-17179869184≤a) (ha1:a≤17179869184) (hb:-17179869184≤b) (hb1:b≤17179869184) :
  JG k a b=some (decide (a*b<0),((a*b).natAbs:Int) % 18446744073709551616,((a*b).natAbs:Int) / 18446744073709551616,0,0):=by
 simp only [JG,za2]
 rw [zqc (by omega) (by omega),zqc (by omega) (by omega)]
 simp only [zr]
 rw [zxv (by omega) (by omega) (by omega) (by omega)]
 simp only [zr,zx]
 have hn:(a.natAbs:Int)*(b.natAbs:Int)=((a*b).natAbs:Int):=by rw [Int.natAbs_mul];push_cast;rfl
 rw [hn]
 have hs:(a*b).natAbs=0↔a=0∨b=0:=by rw [Int.natAbs_eq_zero,Int.mul_eq_zero]
 have hbig:((a*b).natAbs:Int)<18446744073709551616*18446744073709551616:=by
  rw [←hn]
  have:=Int.mul_le_mul (show (a.natAbs:Int)≤17179869184 by omega) (show (b.natAbs:Int)≤17179869184 by omega) (by omega) (by omega)
  omega
 by_cases hx:(!((decide (a<0))==(decide (b<0))))=true
 ·rw [Kh hx]
  congr 2
  rw [zwQ (by omega) (by omega) (by omega) (by omega)]
  rw [decide_eq_decide]
  have hx':(a<0∧0≤b)∨(0≤a∧b<0):=by
   by_cases h1:a<0<;>by_cases h2:b<0<;>simp [h1,h2] at hx<;>omega
  constructor
  ·intro h
   have hne:(a*b).natAbs≠0:=by omega
   have h0:¬(a=0∨b=0):=fun h'=>hne (hs.2 h')
   rcases hx' with ⟨h1,h2⟩|⟨h1,h2⟩
   ·exact Int.mul_neg_of_neg_of_pos h1 (by omega)
   ·exact Int.mul_neg_of_pos_of_neg (by omega) h2
  ·intro h;omega
 ·rw [Qx (by simpa using hx)]
  congr 2
  symm
  rw [decide_eq_false_iff_not]
  have hx':(a<0∧b<0)∨(0≤a∧0≤b):=by
   by_cases h1:a<0<;>by_cases h2:b<0<;>simp [h1,h2] at hx<;>omega
  rcases hx' with ⟨h1,h2⟩|⟨h1,h2⟩
  ·have:=Int.mul_pos_of_neg_of_neg h1 h2;omega
  ·have:=Int.mul_nonneg h1 h2;omega
theorem zi7 (k:Nat) (n:Int):Xt k (decide (n<0),((n.natAbs:Int) % 18446744073709551616),((n.natAbs:Int) / 18446744073709551616),0,0)=some (sg n):=by
 simp only [Xt,ze0,Xu,zr,sg]
 by_cases h:n=0
 ·subst h;rfl
 ·rw [Qx (by simp;omega)]
  by_cases h1:n<0
  ·rw [Kh (decide_eq_true h1),if_neg (by omega),if_pos h1]
  ·rw [Qx (decide_eq_false h1),if_pos (by omega)]
theorem zxj (m n:Int) (hm:0≤m) (hn:0≤n):lex (m % 18446744073709551616) (m / 18446744073709551616) (n % 18446744073709551616) (n / 18446744073709551616)=cmp m n:=by
 unfold lex cmp
 split
 ·split
  ·rw [if_neg (by omega),if_neg (by omega)]
  ·split
   ·rw [if_pos (by omega)]
   ·split
    ·rw [if_neg (by omega),if_pos (by omega)]
    ·omega
 ·split
  ·rw [if_pos (by omega)]
  ·split
   ·rw [if_neg (by omega),if_pos (by omega)]
   ·omega
theorem zyo {m':Nat} {a b c d:Int} (ha:-17179869184≤a) (ha1:a≤17179869184) (hb:-17179869184≤b) (hb1:b≤17179869184) (hc:-17179869184≤c) (hc1:c≤17179869184) (hd:-17179869184≤d) (hd1:d≤17179869184) :
  Yb (m'+5) a b c d=some (sg (a*b-c*d)):=by
 simp only [Yb,zdn]
 rw [zmE ha ha1 hb hb1,zmE hc hc1 hd hd1]
 simp only [zr]
 generalize a*b=m
 generalize c*d=n
 suffices h:zaF (m'+5) (decide (m<0),((m.natAbs:Int) % 18446744073709551616),((m.natAbs:Int) / 18446744073709551616),0,0) (decide (n<0),((n.natAbs:Int) % 18446744073709551616),((n.natAbs:Int) / 18446744073709551616),0,0)=some (sg (m-n)) by
  rw [h];rfl
 simp only [zaF,zgE]
 rw [zi7,zi7]
 simp only [zr,zx]
 rw [zlO,zpx,zxj _ _ (by omega) (by omega)]
 simp only [zr]
 by_cases h:sg m=sg n
 ·rw [Qx (by simp [h])]
  by_cases h0:sg m=0
  ·rw [Kh (decide_eq_true h0)]
   congr 1
   unfold sg cmp at *
   (repeat' split)<;>(repeat' split at h)<;>(repeat' split at h0)<;>omega
  ·rw [Qx (decide_eq_false h0)]
   congr 1
   have hc:-1≤cmp (m.natAbs:Int) (n.natAbs:Int)∧cmp (m.natAbs:Int) (n.natAbs:Int)≤1:=by unfold cmp;(repeat' split)<;>omega
   rcases Int.lt_trichotomy m 0 with h1|h1|h1
   ·have hm:sg m=-1:=by rw [sg,if_neg (by omega),if_pos h1]
    have hn:n<0:=by rw [hm] at h;unfold sg at h;(repeat' split at h)<;>omega
    rw [hm,zl (by omega) (by omega)]
    unfold sg cmp
    (repeat' split)<;>omega
   ·subst h1;simp [sg] at h0
   ·have hm:sg m=1:=by rw [sg,if_pos h1]
    have hn:n>0:=by rw [hm] at h;unfold sg at h;(repeat' split at h)<;>omega
    rw [hm,zl (by omega) (by omega)]
    unfold sg cmp
    (repeat' split)<;>omega
 ·rw [Kh (by simp [h])]
  simp only [cond]
  congr 1
  unfold sg cmp at *
  (repeat' split)<;>(repeat' split at h)<;>omega
end Go.Proofs.YtpkkcjmblocjdaaGreat.Pure
