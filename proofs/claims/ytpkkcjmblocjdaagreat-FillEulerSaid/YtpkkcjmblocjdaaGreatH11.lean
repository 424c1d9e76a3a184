/- The reference's numbers: which is greater; a difference. -/
import Derived.Test.YtpkkcjmblocjdaaGreatH10
set_option linter.unusedVariables false
set_option linter.unusedSimpArgs false
set_option linter.unusedSectionVars false
namespace Go.Proofs.YtpkkcjmblocjdaaGreat.Pure
open Go.RowKit Go.Proofs.YtpkkcjmblocjdaaGreat.AM
theorem zeQ:∀{ds:List Int},Dig ds→nat ds<65536^ds.length
 |[],_=>by simp [nat]
 |d::r,h=>by
  have h1:=h d List.mem_cons_self
  have h2:=zeQ (ds:=r) fun x hx=>h x (List.mem_cons_of_mem _ hx)
  simp only [nat,List.length_cons,Int.pow_succ]
  omega
theorem pow_pos (n:Nat):(0:Int)<65536^n:=Int.pow_pos (by omega)
theorem zj6 {m n:Nat} (h:m≤n):(65536:Int)^m≤65536^n:=by
 obtain ⟨d,rfl⟩:=Nat.exists_eq_add_of_le h
 rw [Int.pow_add]
 have h1:=pow_pos m
 have h2:=pow_pos d
 have:=Int.mul_le_mul_of_nonneg_left (show (1:Int)≤65536^d by omega) (Int.le_of_lt h1)
 omega
theorem zhn {ds:List Int} (h:Dig ds) (n:Nat):Dig (ds.take n):=fun d hd=>h d (List.mem_of_mem_take hd)
theorem zjb {ds:List Int} (h:Dig ds) (n:Nat):nat (ds.take n)<65536^n:=by
 have h1:=zeQ (zhn h n)
 have h2:=zj6 (show (ds.take n).length≤n by rw [List.length_take];omega)
 omega
theorem znw {x:Nm} (h:Ok x) {n:Nat} (hn:x.2.length=n+1):65536^n≤nat x.2:=by
 have e:nat x.2=nat (x.2.take n)+65536^n*dg x.2 n:=by rw [←Yt,List.take_of_length_le (by omega)]
 have h1:=JA (zhn h.dig n)
 have hd:dg x.2 n≠0:=by
  have:x.2.getLast?=some (dg x.2 n):=by
   rw [List.getLast?_eq_getElem?,hn]
   unfold dg
   simp [List.getD_eq_getElem?_getD,show n<x.2.length by omega]
  exact h.top _ this
 have hr:=jI h.dig n
 have hp:=pow_pos n
 have:=Int.mul_le_mul_of_nonneg_left (show (1:Int)≤dg x.2 n by omega) (Int.le_of_lt hp)
 omega
def cp (x y:List Int):Nat→Int
 |0=>0
 |n+1=>if dg x n=dg y n then cp x y n else dg x n-dg y n
theorem zyW {x y:List Int} (hx:Dig x) (hy:Dig y):∀n,cp x y n<0↔nat (x.take n)<nat (y.take n)
 |0=>by simp [cp]
 |n+1=>by
  simp only [cp]
  rw [Yt,Yt]
  have h1:=JA (zhn hx n)
  have h2:=zjb hx n
  have h3:=JA (zhn hy n)
  have h4:=zjb hy n
  have hp:=pow_pos n
  split
  ·rename_i e
   rw [zyW hx hy n,e]
   omega
  ·rename_i e
   rcases Int.lt_or_gt_of_ne e with e|e
   ·have:=Int.mul_le_mul_of_nonneg_left (show dg x n+1≤dg y n by omega) (Int.le_of_lt hp)
    rw [Int.mul_add,Int.mul_one] at this
    constructor<;>intro _<;>omega
   ·have:=Int.mul_le_mul_of_nonneg_left (show dg y n+1≤dg x n by omega) (Int.le_of_lt hp)
    rw [Int.mul_add,Int.mul_one] at this
    constructor<;>intro _<;>omega
theorem zuE (m:Nat) (x y:Nm) (hx:Ok x) (hy:Ok y) (lx:x.2.length≤45) (ly:y.2.length≤45):∃r,jO (m+100) x.2 y.2=some r∧(r<0↔nat x.2<nat y.2):=by
 unfold jO
 by_cases hl:x.2.length=y.2.length
 ·rw [Qx (by simp [hl])]
  refine ⟨cp x.2 y.2 x.2.length,?_,?_⟩
  ·rw [zl (x:=(x.2.length:Int)-1) (by omega) (by omega)]
   refine zip (fun n=>(x.2,y.2,(n:Int)-1)) (fun n=>some (cp x.2 y.2 n)) ?_ x.2.length ?_ (m+100) x.2.length (Nat.le_refl _) (by omega)
   ·intro next
    dsimp only
    rw [zg (show ¬((0:Nat):Int)-1≥0 by omega)]
    rfl
   ·intro i hi next hn
    dsimp only at hn ⊢
    have e1:((i+1:Nat):Int)-1=(i:Int):=by omega
    rw [e1,zk (show (i:Int)≥0 by omega),zP (zA ⟨by omega,by omega⟩),zP (zA ⟨by omega,by omega⟩),zY _ _ i hi,zY _ _ i (by omega)]
    have ex:dg x.2 i=x.2[i]:=by unfold dg;simp [List.getD_eq_getElem?_getD,hi]
    have ey:dg y.2 i=y.2[i]'(by omega):=by unfold dg;simp [List.getD_eq_getElem?_getD,show i<y.2.length by omega]
    have rx:=jI hx.dig i
    have ry:=jI hy.dig i
    simp only [cp]
    rw [←ex,←ey,zl (x:=(i:Int)-1) (by omega) (by omega),zl (x:=dg x.2 i-dg y.2 i) (by omega) (by omega),hn]
    by_cases e:dg x.2 i=dg y.2 i
    ·rw [Qx (by simp [e]),if_pos e]
    ·rw [Kh (by simp [e]),if_neg e,zP (zA ⟨by omega,by omega⟩),zP (zA ⟨by omega,by omega⟩)]
  ·rw [zyW hx.dig hy.dig,List.take_length,List.take_of_length_le (by omega)]
 ·rw [Kh (by simp;omega),zl (by omega) (by omega)]
  refine ⟨_,rfl,?_⟩
  by_cases h:x.2.length<y.2.length
  ·obtain ⟨n,hn⟩:∃n,y.2.length=n+1:=⟨y.2.length-1,by omega⟩
   have h1:=zeQ hx.dig
   have h2:=znw hy hn
   have h3:=zj6 (show x.2.length≤n by omega)
   constructor<;>intro _<;>omega
  ·obtain ⟨n,hn⟩:∃n,x.2.length=n+1:=⟨x.2.length-1,by omega⟩
   have h1:=zeQ hy.dig
   have h2:=znw hx hn
   have h3:=zj6 (show y.2.length≤n by omega)
   constructor<;>intro _<;>omega
end Go.Proofs.YtpkkcjmblocjdaaGreat.Pure
