/- What two segments have in common, from whichever end; the first two of a row that meet otherwise than they may. -/
import Derived.Test.YtpkkcjmblocjdaaGreatW3
import Derived.Test.YtpkkcjmblocjdaaGreatH20
set_option linter.unusedVariables false
set_option linter.unusedSimpArgs false
set_option linter.unusedSectionVars false
namespace Go.Proofs.YtpkkcjmblocjdaaGreat.Pure
open Go.RowKit Go.Proofs.YtpkkcjmblocjdaaGreat.AM
theorem zuC {a b c d:Pt}:Bad b a c d↔Bad a b c d:=by
 unfold Bad
 exact ⟨fun h=>h.imp Eq.symm (Or.imp id fun h x=>h ⟨x.2.1,x.1,x.2.2⟩),fun h=>h.imp Eq.symm (Or.imp id fun h x=>h ⟨x.2.1,x.1,x.2.2⟩)⟩
theorem zu8 {a b c d:Pt}:Bad c d a b↔Bad a b c d:=by
 unfold Bad
 constructor
 ·rintro (h|h|h)
  ·exact .inr (.inl h)
  ·exact .inl h
  ·exact .inr (.inr fun x=>h ⟨x.2.2.1,x.2.2.2,x.1,x.2.1⟩)
 ·rintro (h|h|h)
  ·exact .inr (.inl h)
  ·exact .inl h
  ·exact .inr (.inr fun x=>h ⟨x.2.2.1,x.2.2.2,x.1,x.2.1⟩)
theorem zuN {a b c d:Pt}:how c d a b=how a b c d:=by
 have sy:∀x y:Pt,decide (x=y)=decide (y=x):=fun x y=>by rw [decide_eq_decide];exact eq_comm
 have e1:Yh c d a b=Yh a b c d:=by
  unfold Yh
  rw [sy c a,sy c b,sy d a,sy d b]
  generalize decide (a=c)=x;generalize decide (a=d)=y;generalize decide (b=c)=z;generalize decide (b=d)=w
  cases x<;>cases y<;>cases z<;>cases w<;>rfl
 have e2:zar c d a b=zar a b c d:=by
  unfold zar
  generalize decide (Ins a b c)=x;generalize decide (Ins a b d)=y;generalize decide (Ins c d a)=z;generalize decide (Ins c d b)=w
  cases x<;>cases y<;>cases z<;>cases w<;>rfl
 have e3:Cro c d a b↔Cro a b c d:=by unfold Cro;exact and_comm
 unfold how
 rw [e1,e2]
 simp only [e3]
theorem zdb (a b c d:Pt):QT b a c d=QT a b c d:=by
 unfold QT;simp only [zuC (a:=a) (b:=b),zuD (a:=a) (b:=b)]
theorem JC (a b c d:Pt):QT c d a b=QT a b c d:=by
 unfold QT;simp only [zu8 (a:=a) (b:=b),zuN (a:=a) (b:=b)]
theorem zir (a b c d:Pt):QT a b d c=QT a b c d:=by
 rw [←JC a b d c,zdb,JC]
def zn0 (s:Sg):Prop:=¬(Fit s.1∧Fit s.2)∨s.1=s.2
instance (s:Sg):Decidable (zn0 s):=inferInstanceAs (Decidable (_∨_))
def sat (l:List Sg) (i:Int):Sg:=rdD ((0,0),0,0) l i
def qW (l:List Sg) (i k:Nat):Bool:=decide ((QT (sat l i).1 (sat l i).2 (sat l k).1 (sat l k).2).1>1)
def row (f:Nat→Nat→Bool) (n a b:Nat):Option Nat:=(List.range' b (n-b)).find? (f a)
def Yy (f:Nat→Nat→Bool) (n a:Nat):Option (Nat×Nat):=(List.range' a (n-a)).findSome? fun a=>(row f n a (a+1)).map fun b=>(a,b)
theorem Jp (f:Nat→Nat→Bool) (n a:Nat):row f n a n=none:=by unfold row;rw [Nat.sub_self];rfl
theorem Qb (f:Nat→Nat→Bool) {n a b:Nat} (h:b<n):row f n a b=if f a b=true then some b else row f n a (b+1):=by
 unfold row
 rw [show n-b=(n-(b+1))+1 by omega,List.range'_succ,List.find?_cons]
 cases f a b<;>simp
theorem zhs (f:Nat→Nat→Bool) (n:Nat):Yy f n n=none:=by unfold Yy;rw [Nat.sub_self];rfl
theorem zfY (f:Nat→Nat→Bool) {n a:Nat} (h:a<n):Yy f n a=match row f n a (a+1) with|some b=>some (a,b)|none=>Yy f n (a+1):=by
 conv=>lhs;unfold Yy
 rw [show n-a=(n-(a+1))+1 by omega,List.range'_succ,List.findSome?_cons]
 cases row f n a (a+1)<;>rfl
def zhd:Option (Nat×Nat)→Int×Int×Bool
 |some (a,b)=>(a,b,true)
 |none=>(0,0,false)
def zn5 (l:List Sg):Int×Int×Bool:=if (l.any fun s=>decide (zn0 s))=true then (0,0,false) else zhd (Yy (qW l) l.length 0)
theorem zwP (m:Nat) (l:List Sg) (hl:l.length≤350):Kk (m+400) l=some (zn5 l):=by
 have segsL:∀a b c d,QE (m+400) a b c d=some (QT a b c d):=fun a b c d=>zvq (m+394) a b c d
 have fitsL:∀l:List Pt,l.length≤5→qz (m+400) l=some (l.all fun p=>decide (Fit p)):=fun l h=>zk6 (m+394) l h
 unfold Kk zdt zn5
 refine zG (fun i=>(l,l,(l.length:Int),(i:Int))) l.length (fun i=>some (if ((l.drop i).any fun s=>decide (zn0 s))=true then (0,0,false) else zhd (Yy (qW l) l.length 0))) ?_ ?_ (m+400) 0 (Nat.zero_le _) (by omega)
 ·intro next
  dsimp only
  rw [zg (by omega),List.drop_length,List.any_nil,if_neg (by simp)]
  refine zG (fun i=>(l,l,(l.length:Int),(i:Int))) l.length (fun i=>some (zhd (Yy (qW l) l.length i))) ?_ ?_ (m+400) 0 (Nat.zero_le _) (by omega)
  ·intro next
   dsimp only
   rw [zg (by omega),zhs];rfl
  ·intro i hi next hn
   dsimp only at hn ⊢
   rw [zl (by omega),z6 (zF ⟨by omega,by omega⟩),zo (by omega) (by omega),zfY _ hi]
   have hn':next (l,l,(l.length:Int),(i:Int)+1)=some (zhd (Yy (qW l) l.length (i+1))):=hn
   refine (zG (fun b=>(l,(i:Int),sat l i,(b:Int),l,(l.length:Int),(i:Int))) l.length (fun b=>some (zhd (match row (qW l) l.length i b with|some b=>some (i,b)|none=>Yy (qW l) l.length (i+1)))) ?_ ?_ (m+400) (i+1) (by omega) (by omega))
   ·intro next2
    dsimp only
    rw [zg (by omega),Jp,zo (x:=(i:Int)+1) (by omega) (by omega)]
    rw [hn']
   ·intro b hb next2 hn2
    dsimp only at hn2 ⊢
    rw [zl (by omega),z6 (zF ⟨by omega,by omega⟩),z6 (zF ⟨by omega,by omega⟩),zo (x:=(b:Int)+1) (by omega) (by omega),Qb _ hb]
    simp only [Y0]
    rw [segsL,zt]
    have e:decide ((QT (sat l i).1 (sat l i).2 (rdD ((0,0),0,0) l (b:Int)).1 (rdD ((0,0),0,0) l (b:Int)).2).1>1)=qW l i b:=rfl
    rw [e]
    cases qW l i b
    ·exact hn2
    ·rfl
 ·intro i hi next hn
  dsimp only at hn ⊢
  rw [zl (by omega),z6 (zF ⟨by omega,by omega⟩),z7 _ l i hi,List.drop_eq_getElem_cons hi,List.any_cons]
  generalize l[i]=s at hn ⊢
  have hn':next (l,l,(l.length:Int),(i:Int)+1)=some (if ((l.drop (i+1)).any fun s=>decide (zn0 s))=true then (0,0,false) else zhd (Yy (qW l) l.length 0)):=hn
  simp only [zz,Y0]
  rw [zo (by omega) (by omega),fitsL _ (by simp),zt,zzT]
  simp only [decide_true,Bool.true_and,eqP]
  by_cases h:Fit s.1∧Fit s.2
  ·rw [decide_eq_true h]
   by_cases h':s.2=s.1
   ·rw [decide_eq_true h',decide_eq_true (show zn0 s from .inr h'.symm)];rfl
   ·rw [decide_eq_false h',decide_eq_false (show ¬zn0 s from fun x=>x.elim (fun y=>y h) (fun y=>h' y.symm))]
    exact hn'
  ·rw [decide_eq_false h,decide_eq_true (show zn0 s from .inl h)];rfl
end Go.Proofs.YtpkkcjmblocjdaaGreat.Pure
