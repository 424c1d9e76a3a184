/- What two segments have in common, from whichever end; the first two of a row that meet otherwise than they may. -/
import Derived.Test.YtpkkcjmblocjdaaGreatW3
import Derived.Test.YtpkkcjmblocjdaaGreatH20
set_option linter.unusedVariables false
set_option linter.unusedSimpArgs false
set_option linter.unusedSectionVars false
namespace Go.Proofs.YtpkkcjmblocjdaaGreat.Pure
open Go.RowKit Go.Proofs.YtpkkcjmblocjdaaGreat.AM
theorem ztF {a b c d:Pt}:Bad b a c d↔Bad a b c d:=by
 unfold Bad
 exact ⟨fun h=>h.imp Eq.symm (Or.imp id fun h x=>h ⟨x.2.1,x.1,x.2.2⟩),fun h=>h.imp Eq.symm (Or.imp id fun h x=>h ⟨x.2.1,x.1,x.2.2⟩)⟩
theorem zve {a b c d:Pt}:Bad c d a b↔Bad a b c d:=by
 unfold Bad
 constructor
 ·rintro (h|h|h)
  ·exact .inr (.inl h)
  ·exact .inl h
  ·exact .inr (.inr fun x=>h ⟨x.2.2.1,x.2.2.2,x.1,x.2.1⟩)
 ·rintro (h|h|h)
  ·exact .inr (.inl h)
  ·exact .inl h
  ·exact .inr (.inr fun x=>h ⟨x.2.2.1,x.2.2.2,x.1,x.2.1⟩)
theorem zu9 {a b c d:Pt}:how c d a b=how a b c d:=by
 have sy:∀x y:Pt,decide (x=y)=decide (y=x):=fun x y=>by rw [decide_eq_decide];exact eq_comm
 have e1:Kx c d a b=Kx a b c d:=by
  unfold Kx
  rw [sy c a,sy c b,sy d a,sy d b]
  generalize decide (a=c)=x;generalize decide (a=d)=y;generalize decide (b=c)=z;generalize decide (b=d)=w
  cases x<;>cases y<;>cases z<;>cases w<;>rfl
 have e2:Xw c d a b=Xw a b c d:=by
  unfold Xw
  generalize decide (Ins a b c)=x;generalize decide (Ins a b d)=y;generalize decide (Ins c d a)=z;generalize decide (Ins c d b)=w
  cases x<;>cases y<;>cases z<;>cases w<;>rfl
 have e3:Cro c d a b↔Cro a b c d:=by unfold Cro;exact and_comm
 unfold how
 rw [e1,e2]
 simp only [e3]
theorem zbO (a b c d:Pt):Qq b a c d=Qq a b c d:=by
 unfold Qq;simp only [ztF (a:=a) (b:=b),zuM (a:=a) (b:=b)]
theorem QY (a b c d:Pt):Qq c d a b=Qq a b c d:=by
 unfold Qq;simp only [zve (a:=a) (b:=b),zu9 (a:=a) (b:=b)]
theorem zh0 (a b c d:Pt):Qq a b d c=Qq a b c d:=by
 rw [←QY a b d c,zbO,QY]
def zmZ (s:Sg):Prop:=¬(Fit s.1∧Fit s.2)∨s.1=s.2
instance (s:Sg):Decidable (zmZ s):=inferInstanceAs (Decidable (_∨_))
def sat (l:List Sg) (i:Int):Sg:=rdD ((0,0),0,0) l i
def qM (l:List Sg) (i k:Nat):Bool:=decide ((Qq (sat l i).1 (sat l i).2 (sat l k).1 (sat l k).2).1>1)
def row (f:Nat→Nat→Bool) (n a b:Nat):Option Nat:=(List.range' b (n-b)).find? (f a)
def KM (f:Nat→Nat→Bool) (n a:Nat):Option (Nat×Nat):=(List.range' a (n-a)).findSome? fun a=>(row f n a (a+1)).map fun b=>(a,b)
theorem Je (f:Nat→Nat→Bool) (n a:Nat):row f n a n=none:=by unfold row;rw [Nat.sub_self];rfl
theorem ZZ (f:Nat→Nat→Bool) {n a b:Nat} (h:b<n):row f n a b=if f a b=true then some b else row f n a (b+1):=by
 unfold row
 rw [show n-b=(n-(b+1))+1 by omega,List.range'_succ,List.find?_cons]
 cases f a b<;>simp
theorem zgA (f:Nat→Nat→Bool) (n:Nat):KM f n n=none:=by unfold KM;rw [Nat.sub_self];rfl
theorem ze6 (f:Nat→Nat→Bool) {n a:Nat} (h:a<n):KM f n a=match row f n a (a+1) with|some b=>some (a,b)|none=>KM f n (a+1):=by
 conv=>lhs;unfold KM
 rw [show n-a=(n-(a+1))+1 by omega,List.range'_succ,List.findSome?_cons]
 cases row f n a (a+1)<;>rfl
def zfQ:Option (Nat×Nat)→Int×Int×Bool
 |some (a,b)=>(a,b,true)
 |none=>(0,0,false)
def znl (l:List Sg):Int×Int×Bool:=if (l.any fun s=>decide (zmZ s))=true then (0,0,false) else zfQ (KM (qM l) l.length 0)
theorem zv6 (m:Nat) (l:List Sg) (hl:l.length≤350):JQ (m+400) l=some (znl l):=by
 have segsL:∀a b c d,ZY (m+400) a b c d=some (Qq a b c d):=fun a b c d=>ztt (m+394) a b c d
 have fitsL:∀l:List Pt,l.length≤5→qt (m+400) l=some (l.all fun p=>decide (Fit p)):=fun l h=>zkq (m+394) l h
 unfold JQ zcj znl
 refine zG (fun i=>(l,l,(l.length:Int),(i:Int))) l.length (fun i=>some (if ((l.drop i).any fun s=>decide (zmZ s))=true then (0,0,false) else zfQ (KM (qM l) l.length 0))) ?_ ?_ (m+400) 0 (Nat.zero_le _) (by omega)
 ·intro next
  dsimp only
  rw [zh (by omega),List.drop_length,List.any_nil,if_neg (by simp)]
  refine zG (fun i=>(l,l,(l.length:Int),(i:Int))) l.length (fun i=>some (zfQ (KM (qM l) l.length i))) ?_ ?_ (m+400) 0 (Nat.zero_le _) (by omega)
  ·intro next
   dsimp only
   rw [zh (by omega),zgA];rfl
  ·intro i hi next hn
   dsimp only at hn ⊢
   rw [zk (by omega),zY (zM ⟨by omega,by omega⟩),zl (by omega) (by omega),ze6 _ hi]
   have hn':next (l,l,(l.length:Int),(i:Int)+1)=some (zfQ (KM (qM l) l.length (i+1))):=hn
   refine (zG (fun b=>(l,(i:Int),sat l i,(b:Int),l,(l.length:Int),(i:Int))) l.length (fun b=>some (zfQ (match row (qM l) l.length i b with|some b=>some (i,b)|none=>KM (qM l) l.length (i+1)))) ?_ ?_ (m+400) (i+1) (by omega) (by omega))
   ·intro next2
    dsimp only
    rw [zh (by omega),Je,zl (x:=(i:Int)+1) (by omega) (by omega)]
    rw [hn']
   ·intro b hb next2 hn2
    dsimp only at hn2 ⊢
    rw [zk (by omega),zY (zM ⟨by omega,by omega⟩),zY (zM ⟨by omega,by omega⟩),zl (x:=(b:Int)+1) (by omega) (by omega),ZZ _ hb]
    simp only [Yg]
    rw [segsL,zr]
    have e:decide ((Qq (sat l i).1 (sat l i).2 (rdD ((0,0),0,0) l (b:Int)).1 (rdD ((0,0),0,0) l (b:Int)).2).1>1)=qM l i b:=rfl
    rw [e]
    cases qM l i b
    ·exact hn2
    ·rfl
 ·intro i hi next hn
  dsimp only at hn ⊢
  rw [zk (by omega),zY (zM ⟨by omega,by omega⟩),qg _ l i hi,List.drop_eq_getElem_cons hi,List.any_cons]
  generalize l[i]=s at hn ⊢
  have hn':next (l,l,(l.length:Int),(i:Int)+1)=some (if ((l.drop (i+1)).any fun s=>decide (zmZ s))=true then (0,0,false) else zfQ (KM (qM l) l.length 0)):=hn
  simp only [zz,Yg]
  rw [zl (by omega) (by omega),fitsL _ (by simp),zr,zyR]
  simp only [decide_true,Bool.true_and,eqP]
  by_cases h:Fit s.1∧Fit s.2
  ·rw [decide_eq_true h]
   by_cases h':s.2=s.1
   ·rw [decide_eq_true h',decide_eq_true (show zmZ s from .inr h'.symm)];rfl
   ·rw [decide_eq_false h',decide_eq_false (show ¬zmZ s from fun x=>x.elim (fun y=>y h) (fun y=>h' y.symm))]
    exact hn'
  ·rw [decide_eq_false h,decide_eq_true (show zmZ s from .inl h)];rfl
end Go.Proofs.YtpkkcjmblocjdaaGreat.Pure
