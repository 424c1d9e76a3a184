/- Where middles lie; the chapter's examples. -/
import Derived.Test.YtpkkcjmblocjdaaGreatW2
set_option linter.unusedVariables false
set_option linter.unusedSimpArgs false
set_option linter.unusedSectionVars false
namespace Go.Proofs.YtpkkcjmblocjdaaGreat.Pure
open Go.RowKit Go.Proofs.YtpkkcjmblocjdaaGreat.AM
def ziK (p:List Pt):Pt→List Int→Pt
 |a,[]=>a
 |a,i::r=>ziK p (a.1+(pt p i).1,a.2+(pt p i).2) r
def OkI (p:List Pt) (i:Int):Prop:=inr i p.length∧Fit (pt p i)
instance (p:List Pt) (i:Int):Decidable (OkI p i):=inferInstanceAs (Decidable (_∧_))
def oki (p:List Pt) (r:List Int):Bool:=r.all fun i=>decide (OkI p i)
def K6 (p l:List Pt) (r:List Int):Int×Int:=if oki p r=true then atv p l r.length (ziK p (0,0) r) else (0,2)
theorem za4 (p:List Pt) (i:Int) (r:List Int):oki p (i::r)=(decide (OkI p i)&&oki p r):=rfl
theorem zpl (m:Nat) (p l:List Pt) (r:List Int) (h1:1≤r.length) (h3:r.length≤3) (hl:l.length≤350):jU (m+400) p l r=some (K6 p l r):=by
 unfold jU XX K6
 refine Ql (fun n s v=>∃(i:Nat) (a:Pt),i≤r.length∧(-(4294967296*(i:Int))≤a.1∧a.1≤4294967296*(i:Int)∧-(4294967296*(i:Int))≤a.2∧a.2≤4294967296*(i:Int))∧n=r.length-i∧s=(p,l,(r.length:Int),a,r,(r.length:Int),(i:Int))∧v=some (if oki p (r.drop i)=true then atv p l r.length (ziK p a (r.drop i)) else (0,2))) ?_ (m+400) r.length _ _ ⟨0,(0,0),by omega,by simp,rfl,rfl,rfl⟩ (by omega)
 rintro n s v ⟨i,a,hi,ha,rfl,rfl,rfl⟩ next hn
 by_cases e:i=r.length
 ·subst e
  dsimp only
  simp only [zx,Ye]
  rw [zg (by omega),List.drop_length,if_pos (show oki p []=true from rfl),zxU m p l _ (by omega) (by omega) hl,zr,zoV _ [_] (by simp),zr,zxP]
  show _=some (atv p l (r.length:Int) a)
  unfold atv
  by_cases h:okl p (r.length:Int) l=true
  ·rw [if_pos h]
   by_cases hq:Fit a
   ·rw [if_pos ⟨h,hq⟩,decide_eq_true hq,zrs m _ a (by simpa using hl) (zrH h) hq];rfl
   ·rw [if_neg (fun x=>hq x.2),decide_eq_false hq];rfl
  ·rw [if_neg h,if_neg (fun x=>h x.1)];rfl
 ·have hi':i<r.length:=by omega
  dsimp only
  simp only [zx]
  rw [zk (by omega),zP (zA ⟨by omega,by omega⟩),zY _ r i hi',zl (x:=(i:Int)+1) (by omega) (by omega),List.drop_eq_getElem_cons hi',za4]
  generalize r[i]=s
  simp only [Ye,zoV _ [_] (show [_].length≤5 by simp),zr,zxP]
  have ea:rdD (0,0) p s=pt p s:=rfl
  by_cases c1:s<0
  ·rw [zk c1,decide_eq_false (show ¬OkI p s from fun h=>by have:=h.1;unfold inr at this;omega)];rfl
  rw [zg c1]
  by_cases c2:s≥(p.length:Int)
  ·rw [zk c2,decide_eq_false (show ¬OkI p s from fun h=>by have:=h.1;unfold inr at this;omega)];rfl
  rw [zg c2]
  have r1:inr s p.length:=⟨by omega,by omega⟩
  simp only [Jw r1,gT,ea]
  by_cases c3:Fit (pt p s)
  ·have c3':=c3
   unfold Fit at c3'
   rw [decide_eq_true c3,decide_eq_true (show OkI p s from ⟨r1,c3⟩),Bool.true_and,zl (by omega) (by omega),zl (by omega) (by omega)]
   exact hn (r.length-(i+1)) _ _ (by omega) ⟨i+1,(a.1+(pt p s).1,a.2+(pt p s).2),by omega,⟨by dsimp only;omega,by dsimp only;omega,by dsimp only;omega,by dsimp only;omega⟩,rfl,rfl,rfl⟩
  ·rw [decide_eq_false c3,decide_eq_false (show ¬OkI p s from fun h=>c3 h.2)];rfl
theorem zs8 (m:Nat) (p l:List Pt) (r:List Int) (h1:1≤r.length) (h3:r.length≤3) (hl:l.length≤350):jk (m+400) p l r=some (K6 p l r):=by
 unfold jk Jk K6
 refine Ql (fun n s v=>∃(i:Nat) (a:Pt),i≤r.length∧(-(4294967296*(i:Int))≤a.1∧a.1≤4294967296*(i:Int)∧-(4294967296*(i:Int))≤a.2∧a.2≤4294967296*(i:Int))∧n=r.length-i∧s=(p,l,r,a,(i:Int))∧v=some (if oki p (r.drop i)=true then atv p l r.length (ziK p a (r.drop i)) else (0,2))) ?_ (m+400) r.length _ _ ⟨0,(0,0),by omega,by simp,rfl,rfl,rfl⟩ (by omega)
 rintro n s v ⟨i,a,hi,ha,rfl,rfl,rfl⟩ next hn
 by_cases e:i=r.length
 ·subst e
  dsimp only
  simp only [zx,Ye]
  rw [zg (by omega),List.drop_length,if_pos (show oki p []=true from rfl),zrr m p l _ (by omega) (by omega) hl,zr,zzY,zr]
  show _=some (atv p l (r.length:Int) a)
  unfold atv
  by_cases h:okl p (r.length:Int) l=true
  ·rw [h]
   by_cases hq:Fit a
   ·rw [if_pos ⟨rfl,hq⟩,decide_eq_true hq,zny m p l _ a (by omega) (by omega) hl h hq];rfl
   ·rw [if_neg (fun x=>hq x.2),decide_eq_false hq];rfl
  ·rw [if_neg (fun x=>h x.1),Bool.not_eq_true] at *
   rw [h];rfl
 ·have hi':i<r.length:=by omega
  dsimp only
  simp only [zx]
  have hin:inb (i:Int) r.length=true:=zA ⟨by omega,by omega⟩
  simp only [hin,gT,zY _ r i hi']
  rw [zk (by omega),zl (x:=(i:Int)+1) (by omega) (by omega),List.drop_eq_getElem_cons hi',za4]
  generalize r[i]=s
  simp only [Ye,zzY,zr,zxP]
  have ea:rdD (0,0) p s=pt p s:=rfl
  by_cases c1:s<0
  ·rw [zk c1,decide_eq_false (show ¬OkI p s from fun h=>by have:=h.1;unfold inr at this;omega)];rfl
  rw [zg c1]
  by_cases c2:s≥(p.length:Int)
  ·rw [zk c2,decide_eq_false (show ¬OkI p s from fun h=>by have:=h.1;unfold inr at this;omega)];rfl
  rw [zg c2]
  have r1:inr s p.length:=⟨by omega,by omega⟩
  simp only [Jw r1,gT,ea]
  by_cases c3:Fit (pt p s)
  ·have c3':=c3
   unfold Fit at c3'
   rw [decide_eq_true c3,decide_eq_true (show OkI p s from ⟨r1,c3⟩),Bool.true_and,zl (by omega) (by omega),zl (by omega) (by omega)]
   exact hn (r.length-(i+1)) _ _ (by omega) ⟨i+1,(a.1+(pt p s).1,a.2+(pt p s).2),by omega,⟨by dsimp only;omega,by dsimp only;omega,by dsimp only;omega,by dsimp only;omega⟩,rfl,rfl,rfl⟩
  ·rw [decide_eq_false c3,decide_eq_false (show ¬OkI p s from fun h=>c3 h.2)];rfl
theorem ztx (m:Nat) (p l:List Pt) (a b:Int) (hl:l.length≤350):jC (m+400) p l a b=some (K6 p l [a,b]):=by
 unfold jC Y6
 rw [zpl m p l _ (by simp) (by simp) hl];rfl
end Go.Proofs.YtpkkcjmblocjdaaGreat.Pure
