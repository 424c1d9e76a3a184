/- What two segments have in common, from whichever end; the first two of a row that meet otherwise than they may. -/
import Derived.Test.YtpkkcjmblocjdaaGreatW3
import Derived.Test.YtpkkcjmblocjdaaGreatH20
set_option linter.unusedVariables false
set_option linter.unusedSimpArgs false
set_option linter.unusedSectionVars false
namespace Go.Proofs.YtpkkcjmblocjdaaGreat.Pure
open Go.RowKit Go.Proofs.YtpkkcjmblocjdaaGreat.AM
theorem zuc {a b c d:Pt}:Bad b a c d↔Bad a b c d:=by
 unfold Bad
 exact ⟨fun h=>h.imp Eq.symm (Or.imp id fun h x=>h ⟨x.2.1,x.1,x.2.2⟩),fun h=>h.imp Eq.symm (Or.imp id fun h x=>h ⟨x.2.1,x.1,x.2.2⟩)⟩
theorem zwn {a b c d:Pt}:Bad c d a b↔Bad a b c d:=by
 unfold Bad
 constructor
 ·rintro (h|h|h)
  ·exact .inr (.inl h)
  ·exact .inl h
  ·exact .inr (.inr fun x=>h ⟨x.2.2.1,x.2.2.2,x.1,x.2.1⟩)
 ·rintro (h|h|h)
  ·exact .inr (.inl h)
  ·exact .inl h
  ·exact .inr (.inr fun x=>h ⟨x.2.2.1,x.2.2.2,x.1,x.2.1⟩)
theorem zvM {a b c d:Pt}:how c d a b=how a b c d:=by
 have sy:∀x y:Pt,decide (x=y)=decide (y=x):=fun x y=>by rw [decide_eq_decide];exact eq_comm
 have e1:KT c d a b=KT a b c d:=by
  unfold KT
  rw [sy c a,sy c b,sy d a,sy d b]
  generalize decide (a=c)=x;generalize decide (a=d)=y;generalize decide (b=c)=z;generalize decide (b=d)=w
  cases x<;>cases y<;>cases z<;>cases w<;>rfl
 have e2:XS c d a b=XS a b c d:=by
  unfold XS
  generalize decide (Ins a b c)=x;generalize decide (Ins a b d)=y;generalize decide (Ins c d a)=z;generalize decide (Ins c d b)=w
  cases x<;>cases y<;>cases z<;>cases w<;>rfl
 have e3:Cro c d a b↔Cro a b c d:=by unfold Cro;exact and_comm
 unfold how
 rw [e1,e2]
 simp only [e3]
theorem zcN (a b c d:Pt):QF b a c d=QF a b c d:=by
 unfold QF;simp only [zuc (a:=a) (b:=b),zub (a:=a) (b:=b)]
theorem Je (a b c d:Pt):QF c d a b=QF a b c d:=by
 unfold QF;simp only [zwn (a:=a) (b:=b),zvM (a:=a) (b:=b)]
theorem zic (a b c d:Pt):QF a b d c=QF a b c d:=by
 rw [←Je a b d c,zcN,Je]
def zor (s:Sg):Prop:=¬(Fit s.1∧Fit s.2)∨s.1=s.2
instance (s:Sg):Decidable (zor s):=inferInstanceAs (Decidable (_∨_))
def sat (l:List Sg) (i:Int):Sg:=rdD ((0,0),0,0) l i
def qQ (l:List Sg) (i k:Nat):Bool:=decide ((QF (sat l i).1 (sat l i).2 (sat l k).1 (sat l k).2).1>1)
def row (f:Nat→Nat→Bool) (n a b:Nat):Option Nat:=(List.range' b (n-b)).find? (f a)
def K7 (f:Nat→Nat→Bool) (n a:Nat):Option (Nat×Nat):=(List.range' a (n-a)).findSome? fun a=>(row f n a (a+1)).map fun b=>(a,b)
theorem Jt (f:Nat→Nat→Bool) (n a:Nat):row f n a n=none:=by unfold row;rw [Nat.sub_self];rfl
theorem Qa (f:Nat→Nat→Bool) {n a b:Nat} (h:b<n):row f n a b=if f a b=true then some b else row f n a (b+1):=by
 unfold row
 rw [show n-b=(n-(b+1))+1 by omega,List.range'_succ,List.find?_cons]
 cases f a b<;>simp
theorem zg5 (f:Nat→Nat→Bool) (n:Nat):K7 f n n=none:=by unfold K7;rw [Nat.sub_self];rfl
theorem zfL (f:Nat→Nat→Bool) {n a:Nat} (h:a<n):K7 f n a=match row f n a (a+1) with|some b=>some (a,b)|none=>K7 f n (a+1):=by
 conv=>lhs;unfold K7
 rw [show n-a=(n-(a+1))+1 by omega,List.range'_succ,List.findSome?_cons]
 cases row f n a (a+1)<;>rfl
def zgr:Option (Nat×Nat)→Int×Int×Bool
 |some (a,b)=>(a,b,true)
 |none=>(0,0,false)
def znQ (l:List Sg):Int×Int×Bool:=if (l.any fun s=>decide (zor s))=true then (0,0,false) else zgr (K7 (qQ l) l.length 0)
theorem zyg (m:Nat) (l:List Sg) (hl:l.length≤350):J4 (m+400) l=some (znQ l):=by
 have segsL:∀a b c d,Qr (m+400) a b c d=some (QF a b c d):=fun a b c d=>zwo (m+394) a b c d
 have fitsL:∀l:List Pt,l.length≤5→qu (m+400) l=some (l.all fun p=>decide (Fit p)):=fun l h=>zkc (m+394) l h
 unfold J4 zc9 znQ
 refine zG (fun i=>(l,l,(l.length:Int),(i:Int))) l.length (fun i=>some (if ((l.drop i).any fun s=>decide (zor s))=true then (0,0,false) else zgr (K7 (qQ l) l.length 0))) ?_ ?_ (m+400) 0 (Nat.zero_le _) (by omega)
 ·intro next
  dsimp only
  rw [zg (by omega),List.drop_length,List.any_nil,if_neg (by simp)]
  refine zG (fun i=>(l,l,(l.length:Int),(i:Int))) l.length (fun i=>some (zgr (K7 (qQ l) l.length i))) ?_ ?_ (m+400) 0 (Nat.zero_le _) (by omega)
  ·intro next
   dsimp only
   rw [zg (by omega),zg5];rfl
  ·intro i hi next hn
   dsimp only at hn ⊢
   rw [zk (by omega),zP (zA ⟨by omega,by omega⟩),zl (by omega) (by omega),zfL _ hi]
   have hn':next (l,l,(l.length:Int),(i:Int)+1)=some (zgr (K7 (qQ l) l.length (i+1))):=hn
   refine (zG (fun b=>(l,(i:Int),sat l i,(b:Int),l,(l.length:Int),(i:Int))) l.length (fun b=>some (zgr (match row (qQ l) l.length i b with|some b=>some (i,b)|none=>K7 (qQ l) l.length (i+1)))) ?_ ?_ (m+400) (i+1) (by omega) (by omega))
   ·intro next2
    dsimp only
    rw [zg (by omega),Jt,zl (x:=(i:Int)+1) (by omega) (by omega)]
    rw [hn']
   ·intro b hb next2 hn2
    dsimp only at hn2 ⊢
    rw [zk (by omega),zP (zA ⟨by omega,by omega⟩),zP (zA ⟨by omega,by omega⟩),zl (x:=(b:Int)+1) (by omega) (by omega),Qa _ hb]
    simp only [Ye]
    rw [segsL,zr]
    have e:decide ((QF (sat l i).1 (sat l i).2 (rdD ((0,0),0,0) l (b:Int)).1 (rdD ((0,0),0,0) l (b:Int)).2).1>1)=qQ l i b:=rfl
    rw [e]
    cases qQ l i b
    ·exact hn2
    ·rfl
 ·intro i hi next hn
  dsimp only at hn ⊢
  rw [zk (by omega),zP (zA ⟨by omega,by omega⟩),zY _ l i hi,List.drop_eq_getElem_cons hi,List.any_cons]
  generalize l[i]=s at hn ⊢
  have hn':next (l,l,(l.length:Int),(i:Int)+1)=some (if ((l.drop (i+1)).any fun s=>decide (zor s))=true then (0,0,false) else zgr (K7 (qQ l) l.length 0)):=hn
  simp only [zx,Ye]
  rw [zl (by omega) (by omega),fitsL _ (by simp),zr,zzt]
  simp only [decide_true,Bool.true_and,eqP]
  by_cases h:Fit s.1∧Fit s.2
  ·rw [decide_eq_true h]
   by_cases h':s.2=s.1
   ·rw [decide_eq_true h',decide_eq_true (show zor s from .inr h'.symm)];rfl
   ·rw [decide_eq_false h',decide_eq_false (show ¬zor s from fun x=>x.elim (fun y=>y h) (fun y=>h' y.symm))]
    exact hn'
  ·rw [decide_eq_false h,decide_eq_true (show zor s from .inl h)];rfl
end Go.Proofs.YtpkkcjmblocjdaaGreat.Pure
