/- slices.SortFunc of edges and of triangles; slices.Grow of edges. -/
import Derived.Test.YtpkkcjmblocjdaaGreatGa0
import Derived.Test.YtpkkcjmblocjdaaGreatAs
import Derived.Shelf.SlGeneric
import Derived.Ground.SlsfProg
import Derived.Shelf.Spec.SlicesGrow
import Derived.Ground.Names8Prog
set_option linter.unusedVariables false
set_option linter.unusedSimpArgs false
set_option linter.unusedSectionVars false
set_option maxRecDepth 100000
namespace Go.Proofs
open Go.Shelf
def Tryz.sortSeg_ren:Go.Shelf.Ren:=⟨fun|6=>48|15=>88|14=>87|28=>129|29=>130|20=>121|21=>122|22=>123|23=>124|24=>125|25=>126|26=>127|27=>128|46=>155|47=>156|48=>157|49=>158|50=>159|57=>174|n=>n,fun|22=>23|24=>60|25=>83|3=>3|39=>126|0=>0|53=>155|55=>157|4=>4|46=>148|45=>147|50=>152|5=>5|9=>9|66=>186|70=>190|76=>208|77=>65|n=>n,fun|n=>n⟩
theorem Tryz.sortSeg:Go.Proofs.SlLaysF0.n6 Tryz.prog Tryz.sortSeg_ren:={
 mixed:=by kernel_rfl
 f6:=⟨Tryz.f48.name,by decide,Tryz.func48.trans (congrArg some (by kernel_rfl))⟩
 f14:=⟨Tryz.f87.name,by decide,Tryz.func87.trans (congrArg some (by kernel_rfl))⟩
 f15:=Tryz.func88.trans (congrArg some (by kernel_rfl))
 f20:=⟨Tryz.f121.name,by decide,Tryz.func121.trans (congrArg some (by kernel_rfl))⟩
 f21:=⟨Tryz.f122.name,by decide,Tryz.func122.trans (congrArg some (by kernel_rfl))⟩
 f22:=⟨Tryz.f123.name,by decide,Tryz.func123.trans (congrArg some (by kernel_rfl))⟩
 f23:=⟨Tryz.f124.name,by decide,Tryz.func124.trans (congrArg some (by kernel_rfl))⟩
 f24:=⟨Tryz.f125.name,by decide,Tryz.func125.trans (congrArg some (by kernel_rfl))⟩
 f25:=⟨Tryz.f126.name,by decide,Tryz.func126.trans (congrArg some (by kernel_rfl))⟩
 f26:=⟨Tryz.f127.name,by decide,Tryz.func127.trans (congrArg some (by kernel_rfl))⟩
 f27:=⟨Tryz.f128.name,by decide,Tryz.func128.trans (congrArg some (by kernel_rfl))⟩
 f28:=Tryz.func129.trans (congrArg some (by kernel_rfl))
 f29:=Tryz.func130.trans (congrArg some (by kernel_rfl))
 f46:=⟨Tryz.f155.name,by decide,Tryz.func155.trans (congrArg some (by kernel_rfl))⟩
 f47:=Tryz.func156.trans (congrArg some (by kernel_rfl))
 f48:=Tryz.func157.trans (congrArg some (by kernel_rfl))
 f49:=⟨Tryz.f158.name,by decide,Tryz.func158.trans (congrArg some (by kernel_rfl))⟩
 f50:=⟨Tryz.f159.name,by decide,Tryz.func159.trans (congrArg some (by kernel_rfl))⟩
 f57:=⟨Tryz.f174.name,by decide,Tryz.func174.trans (congrArg some (by kernel_rfl))⟩
 t0:=Tryz.underlying0
 a0:=Tryz.isAgg0
 z0:=Tryz.sizeOf0
 v0:=Tryz.zeroValue0
 t3:=Tryz.underlying3
 a3:=Tryz.isAgg3
 z3:=Tryz.sizeOf3
 v3:=Tryz.zeroValue3
 t4:=Tryz.underlying4
 a4:=Tryz.isAgg4
 z4:=Tryz.sizeOf4
 v4:=Tryz.zeroValue4
 t5:=Tryz.underlying5
 a5:=Tryz.isAgg5
 z5:=Tryz.sizeOf5
 v5:=Tryz.zeroValue5
 t9:=Tryz.underlying9
 a9:=Tryz.isAgg9
 z9:=Tryz.sizeOf9
 v9:=Tryz.zeroValue9
 t22:=Tryz.underlying23
 a22:=Tryz.isAgg23
 z22:=Tryz.sizeOf23
 v22:=Tryz.zeroValue23
 t25:=Tryz.underlying83
 a25:=Tryz.isAgg83
 z25:=Tryz.sizeOf83
 v25:=Tryz.zeroValue83
 t39:=Tryz.underlying126
 a39:=Tryz.isAgg126
 z39:=Tryz.sizeOf126
 v39:=Tryz.zeroValue126
 t45:=Tryz.underlying147
 a45:=Tryz.isAgg147
 z45:=Tryz.sizeOf147
 v45:=Tryz.zeroValue147
 t46:=Tryz.underlying148
 a46:=Tryz.isAgg148
 z46:=Tryz.sizeOf148
 v46:=Tryz.zeroValue148
 t50:=Tryz.underlying152
 a50:=Tryz.isAgg152
 z50:=Tryz.sizeOf152
 v50:=Tryz.zeroValue152
 t53:=Tryz.underlying155
 a53:=Tryz.isAgg155
 z53:=Tryz.sizeOf155
 v53:=Tryz.zeroValue155
 t55:=Tryz.underlying157
 a55:=Tryz.isAgg157
 z55:=Tryz.sizeOf157
 v55:=Tryz.zeroValue157
 t66:=Tryz.underlying186
 a66:=Tryz.isAgg186
 z66:=Tryz.sizeOf186
 v66:=Tryz.zeroValue186
 t70:=Tryz.underlying190
 a70:=Tryz.isAgg190
 z70:=Tryz.sizeOf190
 v70:=Tryz.zeroValue190
 t76:=Tryz.underlying208
 a76:=Tryz.isAgg208
 z76:=Tryz.sizeOf208
 v76:=Tryz.zeroValue208
 t77:=Tryz.underlying65
 a77:=Tryz.isAgg65
 z77:=Tryz.sizeOf65
 v77:=Tryz.zeroValue65 }
def Tryz.sortTri_ren:Go.Shelf.Ren:=⟨fun|6=>56|15=>88|14=>93|28=>129|29=>130|20=>135|21=>136|22=>137|23=>138|24=>139|25=>140|26=>141|27=>142|46=>161|47=>156|48=>157|49=>162|50=>163|57=>175|n=>n,fun|22=>34|24=>56|25=>91|3=>3|39=>126|0=>0|53=>155|55=>157|4=>4|46=>148|45=>147|50=>152|5=>5|9=>9|66=>186|70=>190|76=>208|77=>65|n=>n,fun|n=>n⟩
theorem Tryz.sortTri:Go.Proofs.SlLaysF0.n6 Tryz.prog Tryz.sortTri_ren:={
 mixed:=by kernel_rfl
 f6:=⟨Tryz.f56.name,by decide,Tryz.func56.trans (congrArg some (by kernel_rfl))⟩
 f14:=⟨Tryz.f93.name,by decide,Tryz.func93.trans (congrArg some (by kernel_rfl))⟩
 f15:=Tryz.func88.trans (congrArg some (by kernel_rfl))
 f20:=⟨Tryz.f135.name,by decide,Tryz.func135.trans (congrArg some (by kernel_rfl))⟩
 f21:=⟨Tryz.f136.name,by decide,Tryz.func136.trans (congrArg some (by kernel_rfl))⟩
 f22:=⟨Tryz.f137.name,by decide,Tryz.func137.trans (congrArg some (by kernel_rfl))⟩
 f23:=⟨Tryz.f138.name,by decide,Tryz.func138.trans (congrArg some (by kernel_rfl))⟩
 f24:=⟨Tryz.f139.name,by decide,Tryz.func139.trans (congrArg some (by kernel_rfl))⟩
 f25:=⟨Tryz.f140.name,by decide,Tryz.func140.trans (congrArg some (by kernel_rfl))⟩
 f26:=⟨Tryz.f141.name,by decide,Tryz.func141.trans (congrArg some (by kernel_rfl))⟩
 f27:=⟨Tryz.f142.name,by decide,Tryz.func142.trans (congrArg some (by kernel_rfl))⟩
 f28:=Tryz.func129.trans (congrArg some (by kernel_rfl))
 f29:=Tryz.func130.trans (congrArg some (by kernel_rfl))
 f46:=⟨Tryz.f161.name,by decide,Tryz.func161.trans (congrArg some (by kernel_rfl))⟩
 f47:=Tryz.func156.trans (congrArg some (by kernel_rfl))
 f48:=Tryz.func157.trans (congrArg some (by kernel_rfl))
 f49:=⟨Tryz.f162.name,by decide,Tryz.func162.trans (congrArg some (by kernel_rfl))⟩
 f50:=⟨Tryz.f163.name,by decide,Tryz.func163.trans (congrArg some (by kernel_rfl))⟩
 f57:=⟨Tryz.f175.name,by decide,Tryz.func175.trans (congrArg some (by kernel_rfl))⟩
 t0:=Tryz.underlying0
 a0:=Tryz.isAgg0
 z0:=Tryz.sizeOf0
 v0:=Tryz.zeroValue0
 t3:=Tryz.underlying3
 a3:=Tryz.isAgg3
 z3:=Tryz.sizeOf3
 v3:=Tryz.zeroValue3
 t4:=Tryz.underlying4
 a4:=Tryz.isAgg4
 z4:=Tryz.sizeOf4
 v4:=Tryz.zeroValue4
 t5:=Tryz.underlying5
 a5:=Tryz.isAgg5
 z5:=Tryz.sizeOf5
 v5:=Tryz.zeroValue5
 t9:=Tryz.underlying9
 a9:=Tryz.isAgg9
 z9:=Tryz.sizeOf9
 v9:=Tryz.zeroValue9
 t22:=Tryz.underlying34
 a22:=Tryz.isAgg34
 z22:=Tryz.sizeOf34
 v22:=Tryz.zeroValue34
 t25:=Tryz.underlying91
 a25:=Tryz.isAgg91
 z25:=Tryz.sizeOf91
 v25:=Tryz.zeroValue91
 t39:=Tryz.underlying126
 a39:=Tryz.isAgg126
 z39:=Tryz.sizeOf126
 v39:=Tryz.zeroValue126
 t45:=Tryz.underlying147
 a45:=Tryz.isAgg147
 z45:=Tryz.sizeOf147
 v45:=Tryz.zeroValue147
 t46:=Tryz.underlying148
 a46:=Tryz.isAgg148
 z46:=Tryz.sizeOf148
 v46:=Tryz.zeroValue148
 t50:=Tryz.underlying152
 a50:=Tryz.isAgg152
 z50:=Tryz.sizeOf152
 v50:=Tryz.zeroValue152
 t53:=Tryz.underlying155
 a53:=Tryz.isAgg155
 z53:=Tryz.sizeOf155
 v53:=Tryz.zeroValue155
 t55:=Tryz.underlying157
 a55:=Tryz.isAgg157
 z55:=Tryz.sizeOf157
 v55:=Tryz.zeroValue157
 t66:=Tryz.underlying186
 a66:=Tryz.isAgg186
 z66:=Tryz.sizeOf186
 v66:=Tryz.zeroValue186
 t70:=Tryz.underlying190
 a70:=Tryz.isAgg190
 z70:=Tryz.sizeOf190
 v70:=Tryz.zeroValue190
 t76:=Tryz.underlying208
 a76:=Tryz.isAgg208
 z76:=Tryz.sizeOf208
 v76:=Tryz.zeroValue208
 t77:=Tryz.underlying65
 a77:=Tryz.isAgg65
 z77:=Tryz.sizeOf65
 v77:=Tryz.zeroValue65 }
def Tryz.growSeg_ren:Go.Shelf.Ren:=⟨fun|4=>118|n=>n,fun|22=>23|25=>60|3=>3|4=>4|9=>9|20=>20|0=>0|2=>3|n=>n,fun|n=>n⟩
theorem Tryz.growSeg:Go.Proofs.Lays8.n4 Tryz.prog Tryz.growSeg_ren:={
 mixed:=by kernel_rfl
 f4:=⟨Tryz.f118.name,by decide,Tryz.func118.trans (congrArg some (by kernel_rfl))⟩
 t0:=Tryz.underlying0
 a0:=Tryz.isAgg0
 z0:=Tryz.sizeOf0
 v0:=Tryz.zeroValue0
 t3:=Tryz.underlying3
 a3:=Tryz.isAgg3
 z3:=Tryz.sizeOf3
 v3:=Tryz.zeroValue3
 t4:=Tryz.underlying4
 a4:=Tryz.isAgg4
 z4:=Tryz.sizeOf4
 v4:=Tryz.zeroValue4
 t9:=Tryz.underlying9
 a9:=Tryz.isAgg9
 z9:=Tryz.sizeOf9
 v9:=Tryz.zeroValue9
 t20:=Tryz.underlying20
 a20:=Tryz.isAgg20
 z20:=Tryz.sizeOf20
 v20:=Tryz.zeroValue20
 t22:=Tryz.underlying23
 a22:=Tryz.isAgg23
 z22:=Tryz.sizeOf23
 v22:=Tryz.zeroValue23 }
end Go.Proofs
namespace Go.Proofs.YtpkkcjmblocjdaaGreat.AM
open Go.RowKit Go.Proofs Go.Sort Go.Shelf
abbrev T3:Type:=Int×Int×Int
def JW (a b:Int×Int):Int:=if a.1<b.1 then -1 else if b.1<a.1 then 1 else if a.2<b.2 then -1 else if b.2<a.2 then 1 else 0
def KZ (a b:T3):Int:=if a.1<b.1 then -1 else if b.1<a.1 then 1 else if a.2.1<b.2.1 then -1 else if b.2.1<a.2.1 then 1 else if a.2.2<b.2.2 then -1 else if b.2.2<a.2.2 then 1 else 0
def zxV (a b:Int):Int:=if a<b then -1 else if b<a then 1 else 0
theorem zjk (k:Nat) (a b:Int):qE k a b=some (zxV a b):=by
 unfold qE Jr Z3 zxV
 simp only [bnd,Option.bind_some,decide_true,Bool.not_true,cond]
 by_cases h1:a<b
 ·simp [h1]
 ·by_cases h2:b<a<;>simp [h1,h2]
theorem zkt (k:Nat) (l:List Int) (n:Int) (i:Nat) (F:(Int×List Int×Int×Int)→((Int×List Int×Int×Int)→Option Int)→Option Int)
  (hF:∀x1 x2 x3 x4 next,F (x1,x2,x3,x4) next=bif decide (x4<x3) then gd (inb x4 x2.length) (bif !(decide ((rdD 0 x2 x4)=x1)) then some (rdD 0 x2 x4) else next (x1,x2,x3,w64 (x4+1))) else some x1) (h:i<l.length) (hl:l.length<100) :
  zw F (k+1) (0,l,(l.length:Int),(i:Int))=if rdD 0 l (i:Int)≠0 then some (rdD 0 l (i:Int)) else zw F k (0,l,(l.length:Int),((i+1:Nat):Int)):=by
 have e1:w64 ((i:Int)+1)=((i+1:Nat):Int):=by
  have:w64 ((i:Int)+1)=((i:Int)+1+9223372036854775808) % 18446744073709551616-9223372036854775808:=by
   simp only [w64,IntKind.wrap,IntKind.signed,IntKind.bits]
   simp
   omega
  omega
 show F _ _=_
 rw [hF,e1]
 have c1:decide ((i:Int)<(l.length:Int))=true:=decide_eq_true (by omega)
 have c2:inb (i:Int) l.length=true:=by unfold inb;simp;omega
 rw [c1,c2]
 by_cases h0:rdD 0 l (i:Int)=0
 ·rw [decide_eq_true h0,if_neg (fun h=>h h0)];rfl
 ·rw [decide_eq_false h0,if_pos h0];rfl
theorem zz4 (k:Nat) (a b:Int):Zd (k+5) [a,b]=some (if a≠0 then a else b):=by
 unfold Zd
 refine (zkt _ [a,b] 2 0 _ (fun _ _ _ _ _=>rfl) (by simp) (by simp)).trans ?_
 show (if a≠0 then some a else _)=_
 by_cases h1:a=0
 ·subst h1
  simp only [ne_eq,not_true,if_false]
  refine (zkt _ [0,b] 2 1 _ (fun _ _ _ _ _=>rfl) (by simp) (by simp)).trans ?_
  show (if b≠0 then some b else _)=_
  by_cases h2:b=0
  ·subst h2;rfl
  ·rw [if_pos h2]
 ·rw [if_pos h1,if_pos h1]
theorem ztV (k:Nat) (a b c:Int):Zd (k+5) [a,b,c]=some (if a≠0 then a else if b≠0 then b else c):=by
 unfold Zd
 refine (zkt _ [a,b,c] 3 0 _ (fun _ _ _ _ _=>rfl) (by simp) (by simp)).trans ?_
 show (if a≠0 then some a else _)=_
 by_cases h1:a=0
 ·subst h1
  simp only [ne_eq,not_true,if_false]
  refine (zkt _ [0,b,c] 3 1 _ (fun _ _ _ _ _=>rfl) (by simp) (by simp)).trans ?_
  show (if b≠0 then some b else _)=_
  by_cases h2:b=0
  ·subst h2
   simp only [ne_eq,not_true,if_false]
   refine (zkt _ [0,0,c] 3 2 _ (fun _ _ _ _ _=>rfl) (by simp) (by simp)).trans ?_
   show (if c≠0 then some c else _)=_
   by_cases h3:c=0
   ·subst h3;rfl
   ·rw [if_pos h3]
  ·rw [if_pos h2,if_pos h2]
 ·rw [if_pos h1,if_pos h1]
theorem zsc (k:Nat) (a b:Int×Int):Qu (k+5) a b=some (JW a b):=by
 unfold Qu zdm
 simp only [zjk,zz4,bnd,Option.bind_some]
 unfold zxV JW
 congr 1
 by_cases h1:a.1<b.1
 ·simp [h1]
 ·by_cases h2:b.1<a.1<;>simp [h1,h2]
theorem zsk (k:Nat) (a b:T3):Q1 (k+5) a b=some (KZ a b):=by
 unfold Q1 zc2
 simp only [zjk,ztV,bnd,Option.bind_some]
 unfold zxV KZ
 congr 1
 by_cases h1:a.1<b.1
 ·simp [h1]
 ·by_cases h2:b.1<a.1
  ·simp [h1,h2]
  ·by_cases h3:a.2.1<b.2.1
   ·simp [h1,h2,h3]
   ·by_cases h4:b.2.1<a.2.1<;>simp [h1,h2,h3,h4]
theorem zrE (x y:Int×Int):ltOf JW x y=decide (x.1<y.1∨(x.1=y.1∧x.2<y.2)):=by
 unfold ltOf
 rw [decide_eq_decide]
 unfold JW
 (repeat' split)<;>omega
theorem zr0 (x y:T3):ltOf KZ x y=decide (x.1<y.1∨(x.1=y.1∧(x.2.1<y.2.1∨(x.2.1=y.2.1∧x.2.2<y.2.2)))):=by
 unfold ltOf
 rw [decide_eq_decide]
 unfold KZ
 (repeat' split)<;>omega
theorem zAd:SWO (ltOf JW) where
 irrefl x:=by rw [zrE];simp
 trans x y z h1 h2:=by rw [zrE] at *;simp at *;omega
 ntrans x y z h1 h2:=by rw [zrE] at *;simp at *;omega
theorem zAb:SWO (ltOf KZ) where
 irrefl x:=by rw [zr0];simp
 trans x y z h1 h2:=by rw [zr0] at *;simp at *;omega
 ntrans x y z h1 h2:=by rw [zr0] at *;simp at *;omega
theorem zzm (x y:Int×Int) (h1:ltOf JW x y=false) (h2:ltOf JW y x=false):x=y:=by
 rw [zrE] at h1 h2
 simp only [decide_eq_false_iff_not] at h1 h2
 exact Prod.ext (by omega) (by omega)
theorem zy6 (x y:T3) (h1:ltOf KZ x y=false) (h2:ltOf KZ y x=false):x=y:=by
 rw [zr0] at h1 h2
 simp only [decide_eq_false_iff_not] at h1 h2
 exact Prod.ext (by omega) (Prod.ext (by omega) (by omega))
theorem zq4:zmy Tryz.prog 48 49 (.pair kI kI) JW :=
 zwi (ka:=kI) (kb:=kI) (cf:=JW) (h:=49) (f:=Tryz.f49) Tryz.sortSeg rfl Tryz.isAgg60 Tryz.sizeOf60 Tryz.func49 (by kernel_rfl) (by kernel_rfl) zAd zzm (zcd 5) (fun x y=>zsc 0 x y)
theorem zzD:zmy Tryz.prog 56 57 (.pair kI (.pair kI kI)) KZ :=
 zwi (ka:=kI) (kb:=.pair kI kI) (cf:=KZ) (h:=57) (f:=Tryz.f57) Tryz.sortTri rfl Tryz.isAgg56 Tryz.sizeOf56 Tryz.func57 (by kernel_rfl) (by kernel_rfl) zAb zy6 (zcD 5) (fun x y=>zsk 0 x y)
theorem zrj:zrJ Tryz.prog 118 (.pair kI kI) 60:=by
 intro n w h0 h1
 obtain ⟨k,rfl⟩:=Int.eq_ofNat_of_zero_le h0
 have hent:(callFunc 118 #[.slice none 0 0,.int .i64 (k:Int)]).run Tryz.prog w=.ok (.enter 118 #[.slice none 0 0,.int .i64 (k:Int)]) w:=enters_of Tryz.func118 (by kernel_rfl) rfl _ w
 refine .inl ⟨hent,?_⟩
 by_cases hk:k=0
 ·subst hk
  refine Calls.mono (Any8.slices_Grow_room Tryz.growSeg none 0 0 0 w (by omega) (by omega) (by omega) (by omega)) fun e w' hh=>?_
  obtain ⟨rfl,rfl⟩:=hh
  exact ⟨_,rfl,⟨Below.refl _ _,Nat.le_refl _⟩,World.ownsRow_nil _ _ _ _⟩
 ·obtain ⟨i0,z,hi0,hz0,hs,hb,_,hzs,_⟩:=(zwt (P:=Tryz.prog) (t:=60) (i:=tb.at 60) (by kernel_rfl)).info
  have hs2:i0.size=2:=hs
  have hb2:i0.bytes=16:=hb
  refine Calls.mono (Any8.slices_Grow_grow Tryz.growSeg i0 z hi0 hz0 (by omega) none 0 0 k [] w (by omega) (by omega) (by rw [hb2];omega) (by omega) (by simp) (fun _=>rfl) (fun a h=>by cases h)) fun e w' hh=>?_
  obtain ⟨rfl,rfl⟩:=hh
  have hcap:0+k≤grownCap w (0+k) 0 60:=grownCap_ge _ _ _ _
  have hmx:grownCap w (0+k) 0 60≤maxLen:=grownCap_le_maxLen _ _ _ _ (by unfold maxLen;omega)
  have hheap:∀o:Obj,(w.drew.alloc o).heap=w.heap.push o:=fun _=>rfl
  refine ⟨_,rfl,⟨⟨rfl,rfl,rfl,?_,fun j hj=>?_⟩,Nat.le_succ _⟩,⟨by simp,.inr ⟨w.heap.size,grownCap w (0+k) 0 60,([]:List Value).toArray++Builtin.zeroCells z.cells (0+k-0)++Builtin.zeroCells z.cells (grownCap w (0+k) 0 60-(0+k)),rfl,Nat.le_refl _,?_,Nat.zero_le _,hmx,?_,by simp⟩⟩⟩
  ·rw [hheap];simp
  ·rw [hheap,Array.getElem?_push_lt hj]
   rw [Array.getElem?_eq_getElem hj]
  ·rw [hheap,Array.getElem?_push_size]
   rfl
  ·have hz2:z.cells.size=2:=hzs
   rw [Array.size_append,Array.size_append,size_zeroCells,size_zeroCells,hz2]
   show 0+(0+k-0)*2+(grownCap w (0+k) 0 60-(0+k))*2=grownCap w (0+k) 0 60*2
   omega
#print axioms zrj
end Go.Proofs.YtpkkcjmblocjdaaGreat.AM
