/- Determinants of places: identities, turns, least ones. -/
import Derived.Test.YtpkkcjmblocjdaaGreatT15
import Derived.Test.YtpkkcjmblocjdaaGreatGa9
set_option linter.unusedVariables false
set_option linter.unusedSimpArgs false
set_option linter.unusedSectionVars false
section
namespace Go.Proofs.YtpkkcjmblocjdaaGreat.Pure
open Go.RowKit Go.Proofs.YtpkkcjmblocjdaaGreat.AM PL
theorem qS (a b c:Pt):crs b c a=crs a b c:=by unfold crs;grind
theorem jf (a b c:Pt):crs c a b=crs a b c:=by unfold crs;grind
theorem qf (a b c:Pt):crs b a c=-crs a b c:=by unfold crs;grind
theorem qA (a b c:Pt):crs a c b=-crs a b c:=by unfold crs;grind
theorem zoE (a b c:Pt):crs c b a=-crs a b c:=by unfold crs;grind
theorem zsw (a b:Pt):crs a a b=0:=by unfold crs;grind
theorem qk (a b:Pt):crs a b a=0:=by unfold crs;grind
theorem qq (a b:Pt):crs b a a=0:=by unfold crs;grind
theorem Ym (o a b c d:Pt):crs o a b*crs o c d=crs o a c*crs o b d-crs o a d*crs o b c:=by unfold crs;grind
theorem zdp (a b c d:Pt):crs a b d+crs b c d+crs c a d=crs a b c:=by unfold crs;grind
theorem zZ {x y:Int} (h1:0<x) (h2:0<y):0<x*y:=Int.mul_pos h1 h2
theorem Yg {x y:Int} (h1:x<0) (h2:y<0):0<x*y:=Int.mul_pos_of_neg_of_neg h1 h2
theorem qt {x y:Int} (h1:0<x) (h2:y<0):x*y<0:=Int.mul_neg_of_pos_of_neg h1 h2
theorem qr {x y:Int} (h1:x<0) (h2:0<y):x*y<0:=Int.mul_neg_of_neg_of_pos h1 h2
theorem q5 {x y:Int} (h1:0≤x) (h2:0≤y):0≤x*y:=Int.mul_nonneg h1 h2
theorem jo {x y:Int} (h1:0≤x) (h2:y≤0):x*y≤0:=Int.mul_nonpos_of_nonneg_of_nonpos h1 h2
theorem zbY {x y:Int} (h1:x≤0) (h2:0≤y):x*y≤0:=Int.mul_nonpos_of_nonpos_of_nonneg h1 h2
theorem qL {x y:Int} (h1:x≤0) (h2:y≤0):0≤x*y:=Int.mul_nonneg_of_nonpos_of_nonpos h1 h2
theorem ql {x y:Int} (hx:0<x) (h:0<x*y):0<y:=by
 apply Decidable.byContradiction
 intro hy
 have:=jo (Int.le_of_lt hx) (show y≤0 by omega)
 omega
theorem JL {x y:Int} (hx:0<x) (h:0≤x*y):0≤y:=by
 apply Decidable.byContradiction
 intro hy
 have:=qt hx (show y<0 by omega)
 omega
theorem Zr {x y:Int} (hx:0<x) (h:x*y<0):y<0:=by
 apply Decidable.byContradiction
 intro hy
 have:=q5 (Int.le_of_lt hx) (show 0≤y by omega)
 omega
theorem zfs {x y:Int} (hx:0<x) (h:x*y≤0):y≤0:=by
 apply Decidable.byContradiction
 intro hy
 have:=zZ hx (show 0<y by omega)
 omega
theorem Qj {x y:Int} (hx:0<x) (h:x*y=0):y=0:=by
 have h1:0≤y:=JL hx (by omega)
 have h2:y≤0:=zfs hx (by omega)
 omega
theorem zaB {α:Type} (f:α→Int):∀(l:List α),l≠[]→∃x∈l,∀y∈l,f x≤f y
 |[],h=>absurd rfl h
 |[x],_=>⟨x,List.mem_cons_self,fun y hy=>by rw [List.mem_singleton.1 hy];exact Int.le_refl _⟩
 |x::z::l,_=>by
  obtain ⟨w,hw,hl⟩:=zaB f (z::l) (by simp)
  by_cases h:f x≤f w
  ·refine ⟨x,List.mem_cons_self,fun y hy=>?_⟩
   rcases List.mem_cons.1 hy with rfl|hy
   ·exact Int.le_refl _
   ·exact Int.le_trans h (hl y hy)
  ·refine ⟨w,List.mem_cons_of_mem _ hw,fun y hy=>?_⟩
   rcases List.mem_cons.1 hy with rfl|hy
   ·omega
   ·exact hl y hy
theorem zpS {a b c d e f:Int} (hb:0<b) (hd:0<d) (hf:0<f) (h1:a*d≤c*b) (h2:c*f≤e*d):a*f≤e*b:=by
 have e1:a*f*d≤c*b*f:=by
  have:=Int.mul_le_mul_of_nonneg_right h1 (Int.le_of_lt hf)
  have e:a*f*d=a*d*f:=by grind
  omega
 have e2:c*b*f≤e*b*d:=by
  have:=Int.mul_le_mul_of_nonneg_right h2 (Int.le_of_lt hb)
  have e3:c*b*f=c*f*b:=by grind
  have e4:e*b*d=e*d*b:=by grind
  omega
 exact Int.le_of_mul_le_mul_right (Int.le_trans e1 e2) hd
theorem zk7 {α:Type} (n d:α→Int):∀(l:List α),l≠[]→(∀x∈l,0<d x)→∃x∈l,∀y∈l,n x*d y≤n y*d x
 |[],h,_=>absurd rfl h
 |[x],_,_=>⟨x,List.mem_cons_self,fun y hy=>by rw [List.mem_singleton.1 hy];exact Int.le_refl _⟩
 |x::z::l,_,hd=>by
  obtain ⟨w,hw,hl⟩:=zk7 n d (z::l) (by simp) fun y hy=>hd y (List.mem_cons_of_mem _ hy)
  have dx:=hd x List.mem_cons_self
  have dw:=hd w (List.mem_cons_of_mem _ hw)
  by_cases h:n x*d w≤n w*d x
  ·refine ⟨x,List.mem_cons_self,fun y hy=>?_⟩
   rcases List.mem_cons.1 hy with rfl|hy
   ·exact Int.le_refl _
   ·exact zpS dx dw (hd y (List.mem_cons_of_mem _ hy)) h (hl y hy)
  ·refine ⟨w,List.mem_cons_of_mem _ hw,fun y hy=>?_⟩
   rcases List.mem_cons.1 hy with rfl|hy
   ·omega
   ·exact hl y hy
theorem zk6 (c m:Pt) (l:List Pt) (hne:l≠[]) (hs:∀k∈l,0<crs c m k):∃d∈l,∀k∈l,0≤crs c d k∧(crs c d k=0→crs c m d≤crs c m k):=by
 have turn:∀(l:List Pt),l≠[]→(∀k∈l,0<crs c m k)→∃d∈l,∀k∈l,0≤crs c d k:=by
  intro l
  induction l with
  |nil=>intro h;exact absurd rfl h
  |cons x l ih =>
   intro _ hs
   by_cases hl:l=[]
   ·subst hl
    exact ⟨x,List.mem_cons_self,fun k hk=>by rw [List.mem_singleton.1 hk,qq];omega⟩
   ·obtain ⟨d,hd,h⟩:=ih hl fun k hk=>hs k (List.mem_cons_of_mem _ hk)
    have sx:=hs x List.mem_cons_self
    have sd:=hs d (List.mem_cons_of_mem _ hd)
    by_cases hx:0≤crs c d x
    ·refine ⟨d,List.mem_cons_of_mem _ hd,fun k hk=>?_⟩
     rcases List.mem_cons.1 hk with rfl|hk
     ·exact hx
     ·exact h k hk
    ·refine ⟨x,List.mem_cons_self,fun k hk=>?_⟩
     rcases List.mem_cons.1 hk with rfl|hk
     ·rw [qq];omega
     ·have sk:=hs k (List.mem_cons_of_mem _ hk)
      have hk':=h k hk
      have e:=Ym c m d x k
      have o:=qA c x d
      refine JL sd ?_
      rw [e]
      have p1:=q5 (Int.le_of_lt sx) hk'
      have p2:=qt sk (show crs c d x<0 by omega)
      omega
 obtain ⟨d0,h0,ht⟩:=turn l hne hs
 obtain ⟨d,hd,hl⟩:=zaB (fun k=>crs c m k) (l.filter fun k=>decide (crs c d0 k=0)) (by
  intro h
  have:d0∈l.filter fun k=>decide (crs c d0 k=0):=List.mem_filter.2 ⟨h0,decide_eq_true (qq _ _)⟩
  rw [h] at this
  cases this)
 obtain ⟨hd1,hd2⟩:=List.mem_filter.1 hd
 have hd2:=of_decide_eq_true hd2
 refine ⟨d,hd1,fun k hk=>?_⟩
 have s0:=hs d0 h0
 have s1:=hs d hd1
 have s2:=hs k hk
 have e:=Ym c m d0 d k
 rw [hd2,Int.mul_zero,Int.sub_zero] at e
 refine ⟨JL s0 (by rw [e];exact q5 (Int.le_of_lt s1) (ht k hk)),fun hz=>?_⟩
 rw [hz,Int.mul_zero] at e
 have:=Qj s1 e.symm
 exact hl k (List.mem_filter.2 ⟨hk,decide_eq_true this⟩)
end Go.Proofs.YtpkkcjmblocjdaaGreat.Pure
end
section
namespace Go.Proofs.YtpkkcjmblocjdaaGreat.Pure
open Go.RowKit Go.Proofs.YtpkkcjmblocjdaaGreat.AM PL
def Bet (a b p:Pt):Prop:=crs a b p=0∧0<(p.1-a.1)*(b.1-p.1)+(p.2-a.2)*(b.2-p.2)
def PC (a b c d:Pt):Prop:=crs a b c*crs a b d<0∧crs c d a*crs c d b<0
theorem YF (x:Int):0≤x*x:=by
 rcases Int.le_total 0 x with h|h
 ·exact q5 h h
 ·exact qL h h
theorem zb4 {x:Int} (h:x≠0):0<x*x:=by
 rcases Int.lt_or_gt_of_ne h with h|h
 ·exact Yg h h
 ·exact zZ h h
theorem zap {m d k:Pt} (h:Bet m d k):∃N M:Int,0<M∧M<N∧∀u v,N*crs u v k=(N-M)*crs u v m+M*crs u v d:=by
 obtain ⟨h0,h1⟩:=h
 refine ⟨(d.1-m.1)*(d.1-m.1)+(d.2-m.2)*(d.2-m.2),(k.1-m.1)*(d.1-m.1)+(k.2-m.2)*(d.2-m.2),?_,?_,fun u v=>?_⟩
 ·have e:(k.1-m.1)*(d.1-m.1)+(k.2-m.2)*(d.2-m.2)=((k.1-m.1)*(d.1-k.1)+(k.2-m.2)*(d.2-k.2))+((k.1-m.1)*(k.1-m.1)+(k.2-m.2)*(k.2-m.2)):=by grind
  have:=YF (k.1-m.1)
  have:=YF (k.2-m.2)
  omega
 ·have e:(d.1-m.1)*(d.1-m.1)+(d.2-m.2)*(d.2-m.2)=((k.1-m.1)*(d.1-m.1)+(k.2-m.2)*(d.2-m.2))+((k.1-m.1)*(d.1-k.1)+(k.2-m.2)*(d.2-k.2))+((d.1-k.1)*(d.1-k.1)+(d.2-k.2)*(d.2-k.2)):=by grind
  have:=YF (d.1-k.1)
  have:=YF (d.2-k.2)
  omega
 ·have e:((d.1-m.1)*(d.1-m.1)+(d.2-m.2)*(d.2-m.2))*crs u v k=((d.1-m.1)*(d.1-m.1)+(d.2-m.2)*(d.2-m.2)-((k.1-m.1)*(d.1-m.1)+(k.2-m.2)*(d.2-m.2)))*crs u v m+((k.1-m.1)*(d.1-m.1)+(k.2-m.2)*(d.2-m.2))*crs u v d+crs m d k*((v.1-u.1)*(d.1-m.1)+(v.2-u.2)*(d.2-m.2)):=by
   unfold crs;grind
  rw [e,h0,Int.zero_mul,Int.add_zero]
theorem JX {m c k e:Pt} (h0:crs m c k=0) (h1:0<crs m e k) (h2:crs m e k<crs m e c):Bet m c k:=by
 refine ⟨h0,?_⟩
 have hm:0<crs m e c:=by omega
 have hp:=zZ hm hm
 have a1:crs m e c*(k.1-m.1)=crs m e k*(c.1-m.1)-crs m c k*(e.1-m.1):=by unfold crs;grind
 have a2:crs m e c*(k.2-m.2)=crs m e k*(c.2-m.2)-crs m c k*(e.2-m.2):=by unfold crs;grind
 rw [h0,Int.zero_mul,Int.sub_zero] at a1 a2
 have b1:crs m e c*(c.1-k.1)=(crs m e c-crs m e k)*(c.1-m.1):=by
  have:crs m e c*(c.1-k.1)=crs m e c*(c.1-m.1)-crs m e c*(k.1-m.1):=by grind
  rw [this,a1];grind
 have b2:crs m e c*(c.2-k.2)=(crs m e c-crs m e k)*(c.2-m.2):=by
  have:crs m e c*(c.2-k.2)=crs m e c*(c.2-m.2)-crs m e c*(k.2-m.2):=by grind
  rw [this,a2];grind
 refine ql hp ?_
 have e1:crs m e c*crs m e c*((k.1-m.1)*(c.1-k.1)+(k.2-m.2)*(c.2-k.2))=(crs m e c*(k.1-m.1))*(crs m e c*(c.1-k.1))+(crs m e c*(k.2-m.2))*(crs m e c*(c.2-k.2)):=by grind
 rw [e1,a1,a2,b1,b2]
 have e2:crs m e k*(c.1-m.1)*((crs m e c-crs m e k)*(c.1-m.1))+crs m e k*(c.2-m.2)*((crs m e c-crs m e k)*(c.2-m.2))=(crs m e k*(crs m e c-crs m e k))*((c.1-m.1)*(c.1-m.1)+(c.2-m.2)*(c.2-m.2)):=by grind
 rw [e2]
 refine zZ (zZ h1 (by omega)) ?_
 have s1:=YF (c.1-m.1)
 have s2:=YF (c.2-m.2)
 apply Decidable.byContradiction
 intro hn
 have z1:(c.1-m.1)*(c.1-m.1)=0:=by omega
 have z2:(c.2-m.2)*(c.2-m.2)=0:=by omega
 have y1:c.1-m.1=0:=by
  apply Decidable.byContradiction
  intro hx
  have:=zb4 hx
  omega
 have y2:c.2-m.2=0:=by
  apply Decidable.byContradiction
  intro hx
  have:=zb4 hx
  omega
 have:crs m e c=0:=by
  unfold crs
  rw [y1,y2]
  simp
 omega
theorem zbo {m c k e:Pt} (h0:crs m c k=0) (h1:crs m e k=crs m e c) (h2:0<crs m e c):k=c:=by
 have a1:crs m e c*(k.1-m.1)=crs m e k*(c.1-m.1)-crs m c k*(e.1-m.1):=by unfold crs;grind
 have a2:crs m e c*(k.2-m.2)=crs m e k*(c.2-m.2)-crs m c k*(e.2-m.2):=by unfold crs;grind
 rw [h0,Int.zero_mul,Int.sub_zero,h1] at a1 a2
 have b1:=Int.eq_of_mul_eq_mul_left (by omega) a1
 have b2:=Int.eq_of_mul_eq_mul_left (by omega) a2
 exact Prod.ext (by omega) (by omega)
theorem QS (m d i j u v:Pt):crs m d i*crs u v j-crs m d j*crs u v i=crs i j d*crs u v m-crs i j m*crs u v d:=by unfold crs;grind
theorem zfH (m d i j:Pt):crs m d i-crs m d j=crs i j d-crs i j m:=by unfold crs;grind
structure Net (U:Int→Pt) (n:Nat) (G:Int→Int→Prop):Prop where
 ok:∀i j,G i j→inr i n∧inr j n
 sym:∀i j,G i j→G j i
 inj:∀i j,inr i n→inr j n→U i=U j→i=j
 out:∀i j,G i j→∀k,inr k n→¬Bet (U i) (U j) (U k)
 npc:∀i j,G i j→∀k l,G k l→¬PC (U i) (U j) (U k) (U l)
def zd3 (U:Int→Pt) (n:Nat) (G:Int→Int→Prop) (m x:Pt):Prop:=(∀k,inr k n→¬Bet m x (U k))∧∀i j,G i j→¬PC m x (U i) (U j)
theorem zhj {a b c d:Pt} (h:PC a b c d):PC a b d c:=by
 obtain ⟨h1,h2⟩:=h
 refine ⟨by rw [Int.mul_comm];exact h1,?_⟩
 rw [qf c d a,qf c d b]
 have:-crs c d a*-crs c d b=crs c d a*crs c d b:=by grind
 omega
structure InT (U:Int→Pt) (n:Nat) (m B C:Pt) (c k:Int):Prop where
 r:inr k n
 h:0<crs m B (U k)
 a:0≤crs B C (U k)
 b:0≤crs C m (U k)
 ne:k≠c
section
variable {U:Int→Pt} {n:Nat} {G:Int→Int→Prop} (N:Net U n G) {m B:Pt} {c:Int} (hc:inr c n) (sB:zd3 U n G m B) (sC:zd3 U n G m (U c)) (hC:0<crs m B (U c))
include N hc sC hC
theorem zm9 {k:Int} (h:InT U n m B (U c) c k):0<crs (U c) m (U k):=by
 apply Decidable.byContradiction
 intro hn
 have h0:crs (U c) m (U k)=0:=by have:=h.b;omega
 have h0':crs m (U c) (U k)=0:=by rw [qf,h0];rfl
 have e:=zdp m B (U c) (U k)
 have h1:=h.h
 have h2:=h.a
 by_cases hl:crs m B (U k)<crs m B (U c)
 ·exact sC.1 k h.r (JX h0' h1 hl)
 ·exact h.ne (N.inj k c h.r hc (zbo h0' (by omega) hC))
include sB
theorem zo2 {d i j:Int} (hd:InT U n m B (U c) c d) (ht:∀k,InT U n m B (U c) c k→0≤crs (U c) (U d) (U k)) (g:G i j) (hi:0<crs m (U d) (U i)) (hj:crs m (U d) (U j)<0) (hx:crs (U i) (U j) m*crs (U i) (U j) (U d)<0):False:=by
 obtain ⟨ri,rj⟩:=N.ok i j g
 have dpos:=zm9 N hc sC hC hd
 have dh:=hd.h
 have da:=hd.a
 generalize hCe:U c=C at *
 generalize hDe:U d=D at *
 have dif:=zfH m D (U i) (U j)
 have hα:0<crs (U i) (U j) D:=by
  apply Decidable.byContradiction
  intro h
  have h1:crs (U i) (U j) m<0:=by omega
  have:=qL (Int.le_of_lt h1) (show crs (U i) (U j) D≤0 by omega)
  omega
 have hβ:crs (U i) (U j) m<0:=by
  apply Decidable.byContradiction
  intro h
  have:=q5 (show 0≤crs (U i) (U j) m by omega) (Int.le_of_lt hα)
  omega
 have Tm:crs C D m=-crs C m D:=qA C m D
 have mdC:0<crs m D C:=by
  have:crs m D C=crs C m D:=(qS m D C).symm ▸ (jf m D C).symm
  omega
 have mix:=fun u v=>QS m D (U i) (U j) u v
 have TD:crs C D D=0:=qq D C
 have TC:crs C D C=0:=qk C D
 have qi:∀k,inr k n→0<crs m D (U k)→crs C D (U k)<0→crs m C (U k)<0→False:=by
  intro k rk k1 k2 k3
  have f1:crs C m (U k)=-crs m C (U k):=qf m C (U k)
  have f2:crs C (U k) D=-crs C D (U k):=qA C D (U k)
  have f3:crs m (U k) C=-crs m C (U k):=qA m C (U k)
  have f4:crs C m B=crs m B C:=jf m B C
  have f5:crs C D B=crs B C D:=qS B C D
  have f6:crs C (U k) B=crs B C (U k):=qS B C (U k)
  have p1:=Ym m D C B (U k)
  have f7:crs m D B=-crs m B D:=qA m B D
  have f8:crs m C B=-crs m B C:=qA m B C
  have hh:0<crs m B (U k):=by
   refine ql mdC ?_
   rw [p1,f7,f8]
   have:=Yg (show -crs m B D<0 by omega) k3
   have:=qt k1 (show -crs m B C<0 by omega)
   omega
  have p2:=Ym C m D (U k) B
  have ha:0<crs C (U k) B:=by
   refine ql dpos ?_
   rw [p2,f1,f4,f5]
   have:=q5 (show 0≤-crs m C (U k) by omega) da
   have:=qt hC k2
   omega
  have:=ht k ⟨rk,hh,by omega,by omega,fun e=>by rw [e,hCe,qq] at k3;omega⟩
  omega
 have hTi:0≤crs C D (U i):=by
  apply Decidable.byContradiction
  intro hn
  have hn:crs C D (U i)<0:=by omega
  rcases Int.lt_trichotomy (crs m C (U i)) 0 with hk|hk|hk
  ·exact qi i ri hi hn hk
  ·have e:=zdp m D C (U i)
   have f1:crs D C (U i)=-crs C D (U i):=qf C D (U i)
   have f2:crs C m (U i)=-crs m C (U i):=qf m C (U i)
   exact sC.1 i ri (JX (e:=D) hk hi (by omega))
  ·have e1:=mix m C
   have f1:crs m C m=0:=qk m C
   have f2:crs m C D=-crs m D C:=qA m D C
   rw [f1,f2,Int.mul_zero] at e1
   have hj':crs m C (U j)<0:=by
    refine Zr hi ?_
    have:=qr hj hk
    have:=Yg hβ (show -crs m D C<0 by omega)
    omega
   have p:=Ym (U i) (U j) m D C
   have g1:crs (U i) D C=-crs C D (U i):=by rw [jf D C (U i),qf C D (U i)]
   have g2:crs (U i) m C=crs m C (U i):=jf m C (U i)
   have g3:crs (U i) m D=crs m D (U i):=jf m D (U i)
   rw [g1,g2,g3] at p
   have hjC:0<crs (U i) (U j) C:=by
    refine ql hi ?_
    rw [Int.mul_comm]
    have:=qr hβ (show 0 < -crs C D (U i) by omega)
    have:=zZ hα hk
    omega
   refine sC.2 i j g ⟨qt hk hj',?_⟩
   exact qr hβ hjC
 have mT:=mix C D
 rw [TD,Int.mul_zero,Int.sub_zero] at mT
 have hTj:crs C D (U j)<0:=by
  refine Zr hi ?_
  have a1:=zbY (Int.le_of_lt hj) hTi
  have a2:=qt hα (show crs C D m<0 by omega)
  omega
 have mH:=mix m B
 have Hm:crs m B m=0:=qk m B
 rw [Hm,Int.mul_zero,Int.zero_sub] at mH
 have TB:0≤crs C D B:=by
  have:crs C D B=crs B C D:=qS B C D
  omega
 have hHj:0<crs m B (U j):=by
  apply Decidable.byContradiction
  intro hn
  have hHi:0<crs m B (U i):=by
   apply Decidable.byContradiction
   intro h
   have a1:=jo (Int.le_of_lt hi) (show crs m B (U j)≤0 by omega)
   have a2:=qL (Int.le_of_lt hj) (show crs m B (U i)≤0 by omega)
   have a3:=qr hβ dh
   omega
  by_cases hz:crs m B (U j)=0
  ·
   have f1:crs m D B=-crs m B D:=qA m B D
   have e:crs m D B*crs C D (U j)=(crs m D B-crs m D (U j))*crs C D m+crs m D (U j)*crs C D B-crs m B (U j)*crs C D D+crs m B (U j)*crs C D m:=by unfold crs;grind
   rw [hz,TD] at e
   simp only [Int.zero_mul,Int.sub_zero,Int.add_zero,Int.mul_zero] at e
   have hlt:crs m D B<crs m D (U j):=by
    apply Decidable.byContradiction
    intro h
    have a1:=jo (show 0≤crs m D B-crs m D (U j) by omega) (show crs C D m≤0 by omega)
    have a2:=zbY (Int.le_of_lt hj) TB
    have a3:=Yg (show crs m D B<0 by omega) hTj
    omega
   have hb:Bet m B (U j):=by
    have z:=JX (m:=m) (c:=B) (k:=U j) (e:=(2*m.1-D.1,2*m.2-D.2)) hz
    have r:∀p:Pt,crs m (2*m.1-D.1,2*m.2-D.2) p=-crs m D p:=by intro p;unfold crs;grind
    rw [r,r] at z
    exact z (by omega) (by omega)
   exact sB.1 j rj hb
  ·have hneg:crs m B (U j)<0:=by omega
   have m2:=QS m B (U i) (U j) C D
   have key:crs m B (U i)*crs C D (U j)-crs m B (U j)*crs C D (U i)<0:=by
    have e:-crs m D (U j)*(crs m B (U i)*crs C D (U j)-crs m B (U j)*crs C D (U i))=(crs m D (U i)*crs m B (U j)-crs m D (U j)*crs m B (U i))*crs C D (U j)-crs m B (U j)*(crs m D (U i)*crs C D (U j)-crs m D (U j)*crs C D (U i)):=by grind
    rw [mH,mT] at e
    refine Zr (show 0 < -crs m D (U j) by omega) ?_
    rw [e]
    have a1:=qt (show 0 < -(crs (U i) (U j) m*crs m B D) by have:=qr hβ dh;omega) hTj
    have a2:=Yg hneg (qt hα (show crs C D m<0 by omega))
    omega
   have hjB:0<crs (U i) (U j) B:=by
    apply Decidable.byContradiction
    intro h
    have a1:=qL (show crs (U i) (U j) B≤0 by omega) (show crs C D m≤0 by omega)
    have a2:=zbY (Int.le_of_lt hβ) TB
    omega
   exact sB.2 i j g ⟨qt hHi hneg,qr hβ hjB⟩
 have hmC:0<crs m (U j) C:=by
  have p:=Ym m B D (U j) C
  refine ql dh ?_
  rw [p]
  have:=zZ hHj mdC
  have:=qt hC hj
  omega
 have hCm:crs C m (U j)=crs m (U j) C:=(jf m (U j) C)
 have hBC:0<crs B C (U j):=by
  have p:=Ym C m D (U j) B
  have f4:crs C m B=crs m B C:=jf m B C
  have f6:crs C (U j) B=crs B C (U j):=qS B C (U j)
  rw [f4,f6] at p
  refine ql dpos ?_
  rw [p]
  have:=q5 (show 0≤crs C m (U j) by omega) TB
  have:=qt hC hTj
  omega
 have:=ht j ⟨rj,hHj,by omega,by omega,fun e=>by rw [e,hCe,qq] at hmC;omega⟩
 omega
theorem zuG {k0:Int} (h0:InT U n m B (U c) c k0):∃d,InT U n m B (U c) c d∧zd3 U n G m (U d)∧crs m B (U d)<crs m B (U c):=by
 have idx:∀k,inr k n→k∈(List.range n).map fun (x:Nat)=>(x:Int):=fun k hk=>List.mem_map.2 ⟨k.toNat,List.mem_range.2 (by have:=hk.2;have:=hk.1;omega),Int.toNat_of_nonneg hk.1⟩
 have:∀l:List Int,∃r:List Pt,∀p,p∈r↔∃k∈l,InT U n m B (U c) c k∧U k=p:=by
  intro l
  induction l with
  |nil=>exact ⟨[],by simp⟩
  |cons x l ih =>
   obtain ⟨r,hr⟩:=ih
   by_cases hx:InT U n m B (U c) c x
   ·refine ⟨U x::r,fun p=>?_⟩
    rw [List.mem_cons,hr]
    constructor
    ·rintro (rfl|⟨k,hk,h⟩)
     ·exact ⟨x,List.mem_cons_self,hx,rfl⟩
     ·exact ⟨k,List.mem_cons_of_mem _ hk,h⟩
    ·rintro ⟨k,hk,h1,rfl⟩
     rcases List.mem_cons.1 hk with rfl|hk
     ·exact .inl rfl
     ·exact .inr ⟨k,hk,h1,rfl⟩
   ·refine ⟨r,fun p=>?_⟩
    rw [hr]
    constructor
    ·rintro ⟨k,hk,h⟩
     exact ⟨k,List.mem_cons_of_mem _ hk,h⟩
    ·rintro ⟨k,hk,h1,rfl⟩
     rcases List.mem_cons.1 hk with rfl|hk
     ·exact absurd h1 hx
     ·exact ⟨k,hk,h1,rfl⟩
 obtain ⟨r,hr⟩:=this ((List.range n).map fun (x:Nat)=>(x:Int))
 obtain ⟨p,hp,hf⟩:=zk6 (U c) m r (fun e=>by
  have:=(hr (U k0)).2 ⟨k0,idx k0 h0.r,h0,rfl⟩
  rw [e] at this
  cases this) (fun q hq=>by
  obtain ⟨k,_,hk,rfl⟩:=(hr q).1 hq
  exact zm9 N hc sC hC hk)
 obtain ⟨d,_,hd,rfl⟩:=(hr p).1 hp
 have ht:∀k,InT U n m B (U c) c k→0≤crs (U c) (U d) (U k):=fun k hk=>(hf (U k) ((hr _).2 ⟨k,idx k hk.r,hk,rfl⟩)).1
 have dpos:=zm9 N hc sC hC hd
 refine ⟨d,hd,⟨fun k rk hb=>?_,fun i j g hx=>?_⟩,?_⟩
 ·
  obtain ⟨P,Q,q0,q1,hq⟩:=zap hb
  have e1:=hq m B
  have e2:=hq B (U c)
  have e3:=hq (U c) m
  have e4:=hq (U c) (U d)
  have z1:crs m B m=0:=qk m B
  have z2:crs (U c) m m=0:=qq m (U c)
  have z3:crs (U c) (U d) (U d)=0:=qq (U d) (U c)
  have z4:crs B (U c) m=crs m B (U c):=qS m B (U c)
  have z5:crs (U c) (U d) m=-crs (U c) m (U d):=qA (U c) m (U d)
  rw [z1,Int.mul_zero,Int.zero_add] at e1
  rw [z2,Int.mul_zero,Int.zero_add] at e3
  rw [z3,Int.mul_zero,Int.add_zero,z5] at e4
  rw [z4] at e2
  have hP:0<P:=by omega
  have k1:0<crs m B (U k):=ql hP (by rw [e1];exact zZ q0 hd.h)
  have k3:0<crs (U c) m (U k):=ql hP (by rw [e3];exact zZ q0 dpos)
  have k2:0≤crs B (U c) (U k):=JL hP (by
   rw [e2]
   have:=q5 (show 0≤P-Q by omega) (Int.le_of_lt hC)
   have:=q5 (Int.le_of_lt q0) hd.a
   omega)
  have k4:=ht k ⟨rk,k1,k2,Int.le_of_lt k3,fun e=>by rw [e,qk] at k3;omega⟩
  have:=q5 (Int.le_of_lt hP) k4
  have:=qt (show 0<P-Q by omega) (show -crs (U c) m (U d)<0 by omega)
  omega
 ·obtain ⟨h1,h2⟩:=hx
  rcases Int.lt_trichotomy (crs m (U d) (U i)) 0 with hi|hi|hi
  ·have hj:0<crs m (U d) (U j):=by
    apply Decidable.byContradiction
    intro h
    have:=qL (Int.le_of_lt hi) (show crs m (U d) (U j)≤0 by omega)
    omega
   refine zo2 N hc sB sC hC hd ht (N.sym i j g) hj hi ?_
   rw [qf (U i) (U j) m,qf (U i) (U j) (U d)]
   have:-crs (U i) (U j) m*-crs (U i) (U j) (U d)=crs (U i) (U j) m*crs (U i) (U j) (U d):=by grind
   omega
  ·rw [hi,Int.zero_mul] at h1
   omega
  ·have hj:crs m (U d) (U j)<0:=by
    apply Decidable.byContradiction
    intro h
    have:=q5 (Int.le_of_lt hi) (show 0≤crs m (U d) (U j) by omega)
    omega
   exact zo2 N hc sB sC hC hd ht g hi hj h2
 ·have e:=zdp m B (U c) (U d)
  have:=hd.a
  omega
end
end Go.Proofs.YtpkkcjmblocjdaaGreat.Pure
end
section
namespace Go.Proofs.YtpkkcjmblocjdaaGreat.Pure
open Go.RowKit Go.Proofs.YtpkkcjmblocjdaaGreat.AM PL
def av (x:Int):Int:=if x<0 then -x else x
theorem zvx {x:Int} (h:x<0):av x=-x:=if_pos h
theorem zqU {x:Int} (h:0<x):av x=x:=if_neg (by omega)
theorem zii {m c k e:Pt} (h0:crs m c k=0) (h1:crs m e k<0) (h2:crs m e c<crs m e k):Bet m c k:=by
 have r:∀p:Pt,crs m (2*m.1-e.1,2*m.2-e.2) p=-crs m e p:=by intro p;unfold crs;grind
 refine JX (e:=(2*m.1-e.1,2*m.2-e.2)) h0 ?_ ?_
 ·rw [r];omega
 ·rw [r,r];omega
theorem zxM (n:Nat) (f:Int→Pt) (P:Int→Prop):∃r:List Pt,∀p,p∈r↔∃k,inr k n∧P k∧f k=p:=by
 have:∀l:List Int,∃r:List Pt,∀p,p∈r↔∃k∈l,P k∧f k=p:=by
  intro l
  induction l with
  |nil=>exact ⟨[],by simp⟩
  |cons x l ih =>
   obtain ⟨r,hr⟩:=ih
   by_cases hx:P x
   ·refine ⟨f x::r,fun p=>?_⟩
    rw [List.mem_cons,hr]
    constructor
    ·rintro (rfl|⟨k,hk,h⟩)
     ·exact ⟨x,List.mem_cons_self,hx,rfl⟩
     ·exact ⟨k,List.mem_cons_of_mem _ hk,h⟩
    ·rintro ⟨k,hk,h1,rfl⟩
     rcases List.mem_cons.1 hk with rfl|hk
     ·exact .inl rfl
     ·exact .inr ⟨k,hk,h1,rfl⟩
   ·refine ⟨r,fun p=>?_⟩
    rw [hr]
    constructor
    ·rintro ⟨k,hk,h⟩
     exact ⟨k,List.mem_cons_of_mem _ hk,h⟩
    ·rintro ⟨k,hk,h1,rfl⟩
     rcases List.mem_cons.1 hk with rfl|hk
     ·exact absurd h1 hx
     ·exact ⟨k,hk,h1,rfl⟩
 obtain ⟨r,hr⟩:=this ((List.range n).map fun (x:Nat)=>(x:Int))
 refine ⟨r,fun p=>(hr p).trans ⟨?_,?_⟩⟩
 ·rintro ⟨k,hk,h⟩
  obtain ⟨x,hx,rfl⟩:=List.mem_map.1 hk
  exact ⟨_,⟨by omega,by have:=List.mem_range.1 hx;omega⟩,h⟩
 ·rintro ⟨k,hk,h⟩
  exact ⟨k,List.mem_map.2 ⟨k.toNat,List.mem_range.2 (by have:=hk.2;have:=hk.1;omega),Int.toNat_of_nonneg hk.1⟩,h⟩
section
variable {U:Int→Pt} {n:Nat} {G:Int→Int→Prop} (N:Net U n G) {m D:Pt} (hD:∀k,inr k n→¬Bet m D (U k))
include N hD
theorem zmM {i j:Int} (g:G i j) (hi:0<crs m D (U i)) (hj:crs m D (U j)<0) (hβ:crs (U i) (U j) m<0) (hα:0<crs (U i) (U j) D)
  (hmin:∀p q,G p q→PC m D (U p) (U q)→av (crs (U i) (U j) m)*av (crs (U p) (U q) D)≤av (crs (U p) (U q) m)*av (crs (U i) (U j) D)) :
  ∃d,inr d n∧0<crs m D (U d)∧0≤crs m (U d) (U i)∧zd3 U n G m (U d):=by
 obtain ⟨ri,rj⟩:=N.ok i j g
 obtain ⟨r,hr⟩:=zxM n U fun k=>0<crs m D (U k)∧crs (U i) (U j) (U k)≤0∧0≤crs m (U k) (U i)
 have hin:U i∈r:=(hr _).2 ⟨i,ri,⟨hi,by rw [qk];omega,by rw [qq];omega⟩,rfl⟩
 obtain ⟨d0,hd0,hf⟩:=zk6 m D r (fun e=>by rw [e] at hin;cases hin) (fun q hq=>by
  obtain ⟨k,_,hk,rfl⟩:=(hr q).1 hq
  exact hk.1)
 obtain ⟨d,rd,⟨d1,d2,d3⟩,rfl⟩:=(hr d0).1 hd0
 have ht:∀k,inr k n→0<crs m D (U k)→crs (U i) (U j) (U k)≤0→0≤crs m (U k) (U i)→0≤crs m (U d) (U k)∧(crs m (U d) (U k)=0→crs m D (U d)≤crs m D (U k)) :=
  fun k rk a b c=>hf (U k) ((hr _).2 ⟨k,rk,⟨a,b,c⟩,rfl⟩)
 refine ⟨d,rd,d1,d3,fun k rk hb=>?_,?_⟩
 ·
  obtain ⟨P,Q,q0,q1,hq⟩:=zap hb
  have e1:=hq m D
  have e2:=hq (U i) (U j)
  have e3:=hq (U i) m
  have e4:=hq m (U d)
  rw [qk m D,Int.mul_zero,Int.zero_add] at e1
  rw [qq m (U i),Int.mul_zero,Int.zero_add] at e3
  rw [qk m (U d),qq (U d) m,Int.mul_zero,Int.mul_zero,Int.zero_add] at e4
  have hP:0<P:=by omega
  have k1:0<crs m D (U k):=ql hP (by rw [e1];exact zZ q0 d1)
  have k2:crs (U i) (U j) (U k)≤0:=zfs hP (by
   rw [e2]
   have:=qt (show 0<P-Q by omega) hβ
   have:=jo (Int.le_of_lt q0) d2
   omega)
  have c1:crs (U i) m (U k)=crs m (U k) (U i):=(qS (U i) m (U k)).symm
  have c2:crs (U i) m (U d)=crs m (U d) (U i):=(qS (U i) m (U d)).symm
  rw [c1,c2] at e3
  have k3:0≤crs m (U k) (U i):=JL hP (by rw [e3];exact q5 (Int.le_of_lt q0) d3)
  have k4:=(ht k rk k1 k2 k3).2 (Qj hP e4)
  have a1:=Int.mul_le_mul_of_nonneg_left k4 (Int.le_of_lt hP)
  have a2:=zZ (show 0<P-Q by omega) d1
  have a3:(P-Q)*crs m D (U d)=P*crs m D (U d)-Q*crs m D (U d):=by grind
  omega
 ·
  have main:∀p q,G q p→0<crs m (U d) (U q)→crs m (U d) (U p)<0→crs (U q) (U p) m*crs (U q) (U p) (U d)<0→False:=by
   intro p q gqp hq hp hx
   obtain ⟨rq,rp⟩:=N.ok q p gqp
   have dif:=zfH m (U d) (U q) (U p)
   have hα':0<crs (U q) (U p) (U d):=by
    apply Decidable.byContradiction
    intro h
    have h1:crs (U q) (U p) m<0:=by omega
    have:=qL (Int.le_of_lt h1) (show crs (U q) (U p) (U d)≤0 by omega)
    omega
   have hβ':crs (U q) (U p) m<0:=by
    apply Decidable.byContradiction
    intro h
    have:=q5 (show 0≤crs (U q) (U p) m by omega) (Int.le_of_lt hα')
    omega
   have mix:=fun u v=>QS m (U d) (U q) (U p) u v
   have mφ:=mix (U i) (U j)
   have hY:crs m (U d) (U q)*crs (U i) (U j) (U p)-crs m (U d) (U p)*crs (U i) (U j) (U q)<0:=by
    rw [mφ]
    have:=qt hα' hβ
    have:=qL (Int.le_of_lt hβ') d2
    omega
   have dD:crs m (U d) D=-crs m D (U d):=qA m D (U d)
   by_cases hψ:0<crs m D (U p)
   ·
    have hpf:0<crs m (U p) (U i):=by
     have e:=Ym m D (U d) (U p) (U i)
     refine ql d1 ?_
     rw [e]
     have:=q5 (Int.le_of_lt hψ) d3
     have:=qt hi hp
     omega
    by_cases hφ:crs (U i) (U j) (U p)≤0
    ·have:=(ht p rp hψ hφ (Int.le_of_lt hpf)).1
     omega
    ·have hφ':0<crs (U i) (U j) (U p):=by omega
     have hφq:crs (U i) (U j) (U q)<0:=by
      apply Decidable.byContradiction
      intro h
      have:=zZ hq hφ'
      have:=zbY (Int.le_of_lt hp) (show 0≤crs (U i) (U j) (U q) by omega)
      omega
     have z1:0 < -crs m (U d) (U p)*(crs (U i) (U j) (U p)*crs m D (U q)-crs (U i) (U j) (U q)*crs m D (U p)):=by
      have e:-crs m (U d) (U p)*(crs (U i) (U j) (U p)*crs m D (U q)-crs (U i) (U j) (U q)*crs m D (U p))=crs (U i) (U j) (U p)*(crs m (U d) (U q)*crs m D (U p)-crs m (U d) (U p)*crs m D (U q))+-(crs m (U d) (U q)*crs (U i) (U j) (U p)-crs m (U d) (U p)*crs (U i) (U j) (U q))*crs m D (U p):=by grind
      rw [e,mix m D,qk m D,Int.mul_zero,Int.zero_sub]
      have a1:=qr hβ' d1
      have a2:=zZ hφ' (show 0 < -(crs (U q) (U p) m*crs m D (U d)) by omega)
      have a3:=zZ (show 0 < -(crs m (U d) (U q)*crs (U i) (U j) (U p)-crs m (U d) (U p)*crs (U i) (U j) (U q)) by omega) hψ
      omega
     have w1:=ql (show 0 < -crs m (U d) (U p) by omega) z1
     have z2:0 < -crs m (U d) (U p)*(crs (U i) (U j) (U p)*crs (U i) m (U q)-crs (U i) (U j) (U q)*crs (U i) m (U p)):=by
      have e:-crs m (U d) (U p)*(crs (U i) (U j) (U p)*crs (U i) m (U q)-crs (U i) (U j) (U q)*crs (U i) m (U p))=crs (U i) (U j) (U p)*(crs m (U d) (U q)*crs (U i) m (U p)-crs m (U d) (U p)*crs (U i) m (U q))+-(crs m (U d) (U q)*crs (U i) (U j) (U p)-crs m (U d) (U p)*crs (U i) (U j) (U q))*crs (U i) m (U p):=by grind
      rw [e,mix (U i) m,qq m (U i),Int.mul_zero,Int.zero_sub]
      have c1:crs (U i) m (U p)=crs m (U p) (U i):=(qS (U i) m (U p)).symm
      have c2:crs (U i) m (U d)=crs m (U d) (U i):=(qS (U i) m (U d)).symm
      rw [c1,c2]
      have a1:=zbY (Int.le_of_lt hβ') d3
      have a2:=q5 (Int.le_of_lt hφ') (show 0≤-(crs (U q) (U p) m*crs m (U d) (U i)) by omega)
      have a3:=zZ (show 0 < -(crs m (U d) (U q)*crs (U i) (U j) (U p)-crs m (U d) (U p)*crs (U i) (U j) (U q)) by omega) hpf
      omega
     have w2:=ql (show 0 < -crs m (U d) (U p) by omega) z2
     have x1:=QS (U i) (U j) (U p) (U q) m D
     have x2:=QS (U i) (U j) (U p) (U q) (U i) m
     rw [x1] at w1
     rw [x2,qk (U i) m,Int.mul_zero,Int.zero_sub] at w2
     have c3:crs (U i) m (U j)=-crs (U i) (U j) m:=qA (U i) (U j) m
     rw [c3] at w2
     have pi:crs (U p) (U q) (U i)<0:=by
      apply Decidable.byContradiction
      intro h
      have:=q5 (show 0≤crs (U p) (U q) (U i) by omega) (show 0≤-crs (U i) (U j) m by omega)
      omega
     have pj:0<crs (U p) (U q) (U j):=by
      apply Decidable.byContradiction
      intro h
      have a1:=zbY (show crs (U p) (U q) (U j)≤0 by omega) (Int.le_of_lt hi)
      have a2:=Yg pi hj
      omega
     refine N.npc i j g p q (N.sym _ _ gqp) ⟨qt hφ' hφq,qr pi pj⟩
   ·
    have hψ:crs m D (U p)≤0:=by omega
    have mψ:=mix m D
    rw [qk m D,Int.mul_zero,Int.zero_sub] at mψ
    have hψq:0<crs m D (U q):=by
     apply Decidable.byContradiction
     intro h
     have a0:=qr hβ' d1
     have a1:=jo (Int.le_of_lt hq) hψ
     have a2:=qL (Int.le_of_lt hp) (show crs m D (U q)≤0 by omega)
     omega
    have hX:crs (U i) (U j) D*crs (U q) (U p) m-crs (U i) (U j) m*crs (U q) (U p) D≤0:=by
     by_cases hqD:crs (U q) (U p) D≤0
     ·have a1:=qt hα hβ'
      have a2:=qL (Int.le_of_lt hβ) hqD
      omega
     ·have hqD:0<crs (U q) (U p) D:=by omega
      by_cases hp0:crs m D (U p)=0
      ·exfalso
       refine hD p rp (zii (e:=U q) hp0 ?_ ?_)
       ·have:crs m (U q) (U p)=crs (U q) (U p) m:=(qS m (U q) (U p)).symm
        omega
       ·have e:=zdp m (U q) D (U p)
        have f1:crs D m (U p)=-crs m D (U p):=qf m D (U p)
        have f2:crs (U q) D (U p)=-crs (U q) (U p) D:=qA (U q) (U p) D
        omega
      ·have hp1:crs m D (U p)<0:=by omega
       have:=hmin q p gqp ⟨qt hψq hp1,qr hβ' hqD⟩
       rw [zvx hβ,zqU hqD,zvx hβ',zqU hα] at this
       have e1:-crs (U i) (U j) m*crs (U q) (U p) D=-(crs (U i) (U j) m*crs (U q) (U p) D):=by grind
       have e2:-crs (U q) (U p) m*crs (U i) (U j) D=-(crs (U i) (U j) D*crs (U q) (U p) m):=by grind
       omega
    have mX:=QS m D (U i) (U j) (U q) (U p)
    rw [←mX] at hX
    have hqi:0<crs (U q) (U p) (U i):=by
     apply Decidable.byContradiction
     intro h
     have h:crs (U q) (U p) (U i)≤0:=by omega
     have e:crs m D (U i)*crs (U q) (U p) (U d)=crs m (U d) (U i)*crs (U q) (U p) D+crs m D (U d)*crs (U q) (U p) (U i)+(crs m D (U i)-crs m (U d) (U i)-crs m D (U d))*crs (U q) (U p) m:=by unfold crs;grind
     have e2:crs m D (U i)*crs (U i) (U j) (U d)=crs m (U d) (U i)*crs (U i) (U j) D+crs m D (U d)*crs (U i) (U j) (U i)+(crs m D (U i)-crs m (U d) (U i)-crs m D (U d))*crs (U i) (U j) m:=by unfold crs;grind
     rw [qk (U i) (U j),Int.mul_zero,Int.add_zero] at e2
     have a0:=jo (Int.le_of_lt hi) d2
     have a1:crs (U i) (U j) D*(crs m D (U i)*crs (U q) (U p) (U d))=crs m (U d) (U i)*(crs (U i) (U j) D*crs (U q) (U p) D)+crs (U i) (U j) D*(crs m D (U d)*crs (U q) (U p) (U i))+(crs (U i) (U j) D*(crs m D (U i)-crs m (U d) (U i)-crs m D (U d)))*crs (U q) (U p) m:=by rw [e];grind
     have hXX:=hX
     rw [mX] at hXX
     have b1:-crs (U i) (U j) m*(crs (U i) (U j) D*(crs m D (U i)*crs (U q) (U p) (U d)))=crs m (U d) (U i)*(crs (U i) (U j) D*(crs (U i) (U j) D*crs (U q) (U p) m-crs (U i) (U j) m*crs (U q) (U p) D))+-crs (U i) (U j) m*(crs (U i) (U j) D*(crs m D (U d)*crs (U q) (U p) (U i)))+-crs (U i) (U j) D*(crs m (U d) (U i)*crs (U i) (U j) D+(crs m D (U i)-crs m (U d) (U i)-crs m D (U d))*crs (U i) (U j) m)*crs (U q) (U p) m:=by rw [a1];grind
     rw [←e2] at b1
     have p0:=zZ (show 0 < -crs (U i) (U j) m by omega) (zZ hα (zZ hi hα'))
     have p1:=jo d3 (jo (Int.le_of_lt hα) hXX)
     have p2:=jo (show 0≤-crs (U i) (U j) m by omega) (jo (Int.le_of_lt hα) (jo (Int.le_of_lt d1) h))
     have p3:-crs (U i) (U j) D*(crs m D (U i)*crs (U i) (U j) (U d))*crs (U q) (U p) m≤0:=by
      have:=qL (show -crs (U i) (U j) D≤0 by omega) a0
      exact jo this (Int.le_of_lt hβ')
     omega
    have hqj:crs (U q) (U p) (U j)<0:=by
     apply Decidable.byContradiction
     intro h
     have a1:=q5 (Int.le_of_lt hi) (show 0≤crs (U q) (U p) (U j) by omega)
     have a2:=qr hj hqi
     omega
    have o1:crs (U p) (U q) (U i)=-crs (U q) (U p) (U i):=qf (U q) (U p) (U i)
    have o2:crs (U p) (U q) (U j)=-crs (U q) (U p) (U j):=qf (U q) (U p) (U j)
    have x1:=QS (U i) (U j) (U p) (U q) m D
    rw [o1,o2] at x1
    have pc:crs (U i) (U j) (U p)*crs (U i) (U j) (U q)<0→False:=fun h=>by
     refine N.npc i j g p q (N.sym _ _ gqp) ⟨h,?_⟩
     rw [o1,o2]
     exact qr (by omega) (by omega)
    have e3:-crs (U q) (U p) (U j)*crs m D (U i) - -crs (U q) (U p) (U i)*crs m D (U j)=-(crs m D (U i)*crs (U q) (U p) (U j)-crs m D (U j)*crs (U q) (U p) (U i)):=by grind
    rw [e3] at x1
    rcases Int.lt_trichotomy (crs (U i) (U j) (U p)) 0 with hφ|hφ|hφ
    ·refine pc (qr hφ ?_)
     apply Decidable.byContradiction
     intro h
     have a1:=qr hφ hψq
     have a2:=qL (show crs (U i) (U j) (U q)≤0 by omega) hψ
     omega
    ·
     rw [hφ,Int.mul_zero,Int.zero_sub] at hY
     have hφq:crs (U i) (U j) (U q)<0:=by
      apply Decidable.byContradiction
      intro h
      have:=zbY (Int.le_of_lt hp) (show 0≤crs (U i) (U j) (U q) by omega)
      omega
     rw [hφ,Int.zero_mul,Int.zero_sub] at x1
     have hz:crs m D (U p)=0:=by
      apply Decidable.byContradiction
      intro h
      have:=Yg hφq (show crs m D (U p)<0 by omega)
      omega
     have hb:Bet (U i) (U j) (U p):=by
      refine zii (e:=((U i).1+D.1-m.1,(U i).2+D.2-m.2)) hφ ?_ ?_
      ·have:crs (U i) ((U i).1+D.1-m.1,(U i).2+D.2-m.2) (U p)=crs m D (U p)-crs m D (U i):=by unfold crs;grind
       omega
      ·have r1:crs (U i) ((U i).1+D.1-m.1,(U i).2+D.2-m.2) (U p)=crs m D (U p)-crs m D (U i):=by unfold crs;grind
       have r2:crs (U i) ((U i).1+D.1-m.1,(U i).2+D.2-m.2) (U j)=crs m D (U j)-crs m D (U i):=by unfold crs;grind
       omega
     exact N.out i j g p rp hb
    ·refine pc (qt hφ ?_)
     apply Decidable.byContradiction
     intro h
     have a1:=zZ hq hφ
     have a2:=zbY (Int.le_of_lt hp) (show 0≤crs (U i) (U j) (U q) by omega)
     omega
  rintro p q gpq ⟨h1,h2⟩
  rcases Int.lt_trichotomy (crs m (U d) (U p)) 0 with hp|hp|hp
  ·have hq:0<crs m (U d) (U q):=by
    apply Decidable.byContradiction
    intro h
    have:=qL (Int.le_of_lt hp) (show crs m (U d) (U q)≤0 by omega)
    omega
   refine main p q (N.sym _ _ gpq) hq hp ?_
   rw [qf (U p) (U q) m,qf (U p) (U q) (U d)]
   have:-crs (U p) (U q) m*-crs (U p) (U q) (U d)=crs (U p) (U q) m*crs (U p) (U q) (U d):=by grind
   omega
  ·rw [hp,Int.zero_mul] at h1
   omega
  ·have hq:crs m (U d) (U q)<0:=by
    apply Decidable.byContradiction
    intro h
    have:=q5 (Int.le_of_lt hp) (show 0≤crs m (U d) (U q) by omega)
    omega
   exact main q p gpq hp hq h2
end
end Go.Proofs.YtpkkcjmblocjdaaGreat.Pure
end
section
namespace Go.Proofs.YtpkkcjmblocjdaaGreat.Pure
open Go.RowKit Go.Proofs.YtpkkcjmblocjdaaGreat.AM PL
def mir (p:Pt):Pt:=(-p.1,p.2)
theorem Zc (a b c:Pt):crs (mir a) (mir b) (mir c)=-crs a b c:=by unfold crs mir;grind
theorem zrG (p:Pt):mir (mir p)=p:=by unfold mir;simp
theorem znY {a b p:Pt}:Bet (mir a) (mir b) (mir p)↔Bet a b p:=by
 unfold Bet
 rw [Zc]
 have e:((mir p).1-(mir a).1)*((mir b).1-(mir p).1)+((mir p).2-(mir a).2)*((mir b).2-(mir p).2)=(p.1-a.1)*(b.1-p.1)+(p.2-a.2)*(b.2-p.2):=by unfold mir;grind
 rw [e]
 omega
theorem znH {a b c d:Pt}:PC (mir a) (mir b) (mir c) (mir d)↔PC a b c d:=by
 unfold PC
 rw [Zc,Zc,Zc,Zc]
 have e:∀x y:Int,-x*-y=x*y:=fun x y=>by grind
 rw [e,e]
theorem Net.mir {U:Int→Pt} {n:Nat} {G:Int→Int→Prop} (N:Net U n G):Net (fun k=>mir (U k)) n G where
 ok:=N.ok
 sym:=N.sym
 inj i j hi hj e:=N.inj i j hi hj (by have:=congrArg Pure.mir e;rwa [zrG,zrG] at this)
 out i j g k hk hb:=N.out i j g k hk (znY.1 hb)
 npc i j g k l h hp:=N.npc i j g k l h (znH.1 hp)
theorem zg9 {U:Int→Pt} {n:Nat} {G:Int→Int→Prop} {m x:Pt}:zd3 (fun k=>mir (U k)) n G (mir m) (mir x)↔zd3 U n G m x:=by
 unfold zd3
 simp only [znY,znH]
theorem zeJ (x:Int):av (-x)=av x:=by unfold av;split<;>split<;>omega
theorem zku (n:Nat) (P:Int→Int→Prop):∃r:List (Int×Int),∀p,p∈r↔(inr p.1 n∧inr p.2 n)∧P p.1 p.2:=by
 classical
 refine ⟨((List.range n).flatMap fun (x:Nat)=>(List.range n).map fun (y:Nat)=>((x:Int),(y:Int))).filter fun p=>decide (P p.1 p.2),fun p=>?_⟩
 rw [List.mem_filter,decide_eq_true_eq,List.mem_flatMap]
 refine and_congr_left fun _=>⟨?_,?_⟩
 ·rintro ⟨x,hx,h⟩
  obtain ⟨y,hy,rfl⟩:=List.mem_map.1 h
  have h1:=List.mem_range.1 hx
  have h2:=List.mem_range.1 hy
  exact ⟨⟨by dsimp only;omega,by dsimp only;omega⟩,⟨by dsimp only;omega,by dsimp only;omega⟩⟩
 ·rintro ⟨⟨h1,h2⟩,⟨h3,h4⟩⟩
  exact ⟨p.1.toNat,List.mem_range.2 (by omega),List.mem_map.2 ⟨p.2.toNat,List.mem_range.2 (by omega),Prod.ext (Int.toNat_of_nonneg h1) (Int.toNat_of_nonneg h3)⟩⟩
section
variable {U:Int→Pt} {n:Nat} {G:Int→Int→Prop} (N:Net U n G) {m:Pt}
include N
theorem zqm {D:Pt} (hD:∀k,inr k n→¬Bet m D (U k)) {i j:Int} (g:G i j) (hi:0<crs m D (U i)) (hj:crs m D (U j)<0) (hβ:crs (U i) (U j) m<0) (hα:0<crs (U i) (U j) D)
  (hmin:∀p q,G p q→PC m D (U p) (U q)→av (crs (U i) (U j) m)*av (crs (U p) (U q) D)≤av (crs (U p) (U q) m)*av (crs (U i) (U j) D)) :
  ∃d,inr d n∧crs m D (U d)<0∧crs m (U d) (U j)≤0∧zd3 U n G m (U d):=by
 obtain ⟨d,rd,h1,h2,h3⟩:=zmM N.mir (m:=mir m) (D:=mir D) (fun k hk hb=>hD k hk (znY.1 hb)) (i:=j) (j:=i) (N.sym _ _ g) (by rw [Zc];omega) (by rw [Zc];omega) (by rw [Zc,qf (U i) (U j) m];omega) (by rw [Zc,qf (U i) (U j) D];omega) (fun p q gpq hpc=>by
  have:=hmin p q gpq (znH.1 hpc)
  rw [Zc,Zc,Zc,Zc,qf (U i) (U j) m,qf (U i) (U j) D,zeJ,zeJ,zeJ,zeJ,zeJ,zeJ]
  exact this)
 rw [Zc] at h1 h2
 exact ⟨d,rd,by omega,by omega,zg9.1 h3⟩
theorem zly {B:Pt} {k0:Int} (r0:inr k0 n) (h0:0<crs m B (U k0)):∃d,inr d n∧0<crs m B (U d)∧zd3 U n G m (U d):=by
 obtain ⟨D,rD,hDB,hD⟩:∃D,inr D n∧0<crs m B (U D)∧∀k,inr k n→¬Bet m (U D) (U k):=by
  obtain ⟨r,hr⟩:=zku n fun k _=>k=k0∨Bet m (U k0) (U k)
  obtain ⟨p,hp,hl⟩:=zaB (fun p:Int×Int=>crs m B (U p.1)) r (fun e=>by
   have:=(hr (k0,k0)).2 ⟨⟨r0,r0⟩,.inl rfl⟩
   rw [e] at this
   cases this)
  obtain ⟨⟨rp,_⟩,hp'⟩:=(hr p).1 hp
  have hpos:∀k,k=k0∨Bet m (U k0) (U k)→0<crs m B (U k)∧crs m (U k0) (U k)=0∧(crs m B (U k)≤crs m B (U k0)):=by
   rintro k (rfl|hb)
   ·exact ⟨h0,qq _ _,Int.le_refl _⟩
   ·obtain ⟨P,Q,q0,q1,hq⟩:=zap hb
    have e1:=hq m B
    rw [qk m B,Int.mul_zero,Int.zero_add] at e1
    have hP:0<P:=by omega
    refine ⟨ql hP (by rw [e1];exact zZ q0 h0),hb.1,?_⟩
    apply Decidable.byContradiction
    intro h
    have a1:=Int.mul_le_mul_of_nonneg_left (show crs m B (U k0)≤crs m B (U k) by omega) (Int.le_of_lt hP)
    have a2:=zZ (show 0<P-Q by omega) h0
    have a3:(P-Q)*crs m B (U k0)=P*crs m B (U k0)-Q*crs m B (U k0):=by grind
    omega
  obtain ⟨p1,p2,p3⟩:=hpos p.1 hp'
  refine ⟨p.1,rp,p1,fun k rk hb=>?_⟩
  obtain ⟨P,Q,q0,q1,hq⟩:=zap hb
  have hP:0<P:=by omega
  have e1:=hq m B
  rw [qk m B,Int.mul_zero,Int.zero_add] at e1
  have e2:=hq m (U k0)
  rw [qk m (U k0),Int.mul_zero,p2,Int.mul_zero,Int.add_zero] at e2
  have z:=Qj hP e2
  have k1:0<crs m B (U k):=ql hP (by rw [e1];exact zZ q0 p1)
  have k2:crs m B (U k)<crs m B (U p.1):=by
   apply Decidable.byContradiction
   intro h
   have a1:=Int.mul_le_mul_of_nonneg_left (show crs m B (U p.1)≤crs m B (U k) by omega) (Int.le_of_lt hP)
   have a2:=zZ (show 0<P-Q by omega) p1
   have a3:(P-Q)*crs m B (U p.1)=P*crs m B (U p.1)-Q*crs m B (U p.1):=by grind
   omega
  have hb':Bet m (U k0) (U k):=JX (e:=B) z k1 (by omega)
  have:=hl (k,k) ((hr (k,k)).2 ⟨⟨rk,rk⟩,.inr hb'⟩)
  dsimp only at this
  omega
 let Cr:Int→Int→Prop:=fun i j=>G i j∧(0<crs m (U D) (U i)∧crs m (U D) (U j)<0)∧crs (U i) (U j) m<0∧0<crs (U i) (U j) (U D)
 have cr_of:∀p q,G p q→PC m (U D) (U p) (U q)→Cr p q∨Cr q p:=by
  have one:∀p q,G p q→0<crs m (U D) (U p)→crs m (U D) (U q)<0→crs (U p) (U q) m*crs (U p) (U q) (U D)<0→Cr p q:=by
   intro p q g h1 h2 h3
   have dif:=zfH m (U D) (U p) (U q)
   have hα:0<crs (U p) (U q) (U D):=by
    apply Decidable.byContradiction
    intro h
    have:=qL (show crs (U p) (U q) m≤0 by omega) (show crs (U p) (U q) (U D)≤0 by omega)
    omega
   refine ⟨g,⟨h1,h2⟩,?_,hα⟩
   apply Decidable.byContradiction
   intro h
   have:=q5 (show 0≤crs (U p) (U q) m by omega) (Int.le_of_lt hα)
   omega
  rintro p q g ⟨h1,h2⟩
  rcases Int.lt_trichotomy (crs m (U D) (U p)) 0 with hp|hp|hp
  ·refine .inr (one q p (N.sym _ _ g) ?_ hp ?_)
   ·apply Decidable.byContradiction
    intro h
    have:=qL (Int.le_of_lt hp) (show crs m (U D) (U q)≤0 by omega)
    omega
   ·rw [qf (U p) (U q) m,qf (U p) (U q) (U D)]
    have:-crs (U p) (U q) m*-crs (U p) (U q) (U D)=crs (U p) (U q) m*crs (U p) (U q) (U D):=by grind
    omega
  ·rw [hp,Int.zero_mul] at h1
   omega
  ·refine .inl (one p q g hp ?_ h2)
   apply Decidable.byContradiction
   intro h
   have:=q5 (Int.le_of_lt hp) (show 0≤crs m (U D) (U q) by omega)
   omega
 by_cases hne:∃p q,Cr p q
 ·obtain ⟨r,hr⟩:=zku n Cr
  have hmem:∀p q,Cr p q→(p,q)∈r:=fun p q h=>(hr (p,q)).2 ⟨N.ok p q h.1,h⟩
  obtain ⟨p0,q0,h00⟩:=hne
  obtain ⟨⟨i,j⟩,hij,hl⟩:=zk7 (fun p:Int×Int=>av (crs (U p.1) (U p.2) m)) (fun p=>av (crs (U p.1) (U p.2) (U D))) r (fun e=>by
   have:=hmem p0 q0 h00
   rw [e] at this
   cases this) (fun p hp=>by
   have h:=((hr p).1 hp).2.2.2.2
   rw [zqU h]
   exact h)
  obtain ⟨g,⟨hi,hj⟩,hβ,hα⟩:=((hr (i,j)).1 hij).2
  dsimp only at g hi hj hβ hα
  have hmin:∀p q,G p q→PC m (U D) (U p) (U q)→av (crs (U i) (U j) m)*av (crs (U p) (U q) (U D))≤av (crs (U p) (U q) m)*av (crs (U i) (U j) (U D)):=by
   intro p q g' hpc
   rcases cr_of p q g' hpc with h|h
   ·exact hl (p,q) (hmem p q h)
   ·have:=hl (q,p) (hmem q p h)
    dsimp only at this
    rw [qf (U p) (U q) m,qf (U p) (U q) (U D),zeJ,zeJ] at this
    exact this
  have mix:=QS m (U D) (U i) (U j) m B
  rw [qk m B,Int.mul_zero,Int.zero_sub] at mix
  have hpos:=qr hβ hDB
  by_cases hHi:0<crs m B (U i)
  ·obtain ⟨d,rd,d1,d2,d3⟩:=zmM N hD g hi hj hβ hα hmin
   refine ⟨d,rd,?_,d3⟩
   have e:=Ym m B (U d) (U D) (U i)
   refine ql hi ?_
   rw [Int.mul_comm,e]
   have f:crs m (U d) (U D)=-crs m (U D) (U d):=qA m (U D) (U d)
   rw [f]
   have:=q5 (Int.le_of_lt hDB) d2
   have:=qt hHi (show -crs m (U D) (U d)<0 by omega)
   omega
  ·have hHj:0<crs m B (U j):=by
    apply Decidable.byContradiction
    intro h
    have a1:=jo (Int.le_of_lt hi) (show crs m B (U j)≤0 by omega)
    have a2:=qL (Int.le_of_lt hj) (show crs m B (U i)≤0 by omega)
    omega
   obtain ⟨d,rd,d1,d2,d3⟩:=zqm N hD g hi hj hβ hα hmin
   refine ⟨d,rd,?_,d3⟩
   have e:=Ym m B (U d) (U D) (U j)
   have f:crs m (U d) (U D)=-crs m (U D) (U d):=qA m (U D) (U d)
   rw [f] at e
   have a1:=jo (Int.le_of_lt hDB) d2
   have a2:=zZ hHj (show 0 < -crs m (U D) (U d) by omega)
   apply Decidable.byContradiction
   intro h
   have a3:=qL (show crs m B (U d)≤0 by omega) (Int.le_of_lt hj)
   omega
 ·refine ⟨D,rD,hDB,hD,fun i j g h=>hne ?_⟩
  rcases cr_of i j g h with h|h
  ·exact ⟨i,j,h⟩
  ·exact ⟨j,i,h⟩
end
end Go.Proofs.YtpkkcjmblocjdaaGreat.Pure
end
section
namespace Go.Proofs.YtpkkcjmblocjdaaGreat.Pure
open Go.RowKit Go.Proofs.YtpkkcjmblocjdaaGreat.AM PL
structure Mid (A B m:Pt):Prop where
 x:A.1+B.1=2*m.1
 y:A.2+B.2=2*m.2
theorem Mid.two {A B m:Pt} (h:Mid A B m) (u v:Pt):2*crs u v m=crs u v A+crs u v B:=by
 have h1:=h.x;have h2:=h.y
 unfold crs
 have e1:A.1=2*m.1-B.1:=by omega
 have e2:A.2=2*m.2-B.2:=by omega
 rw [e1,e2];grind
theorem Mid.side {A B m:Pt} (h:Mid A B m) (p:Pt):crs A B p=2*crs m B p:=by
 have h1:=h.x;have h2:=h.y
 unfold crs
 have e1:A.1=2*m.1-B.1:=by omega
 have e2:A.2=2*m.2-B.2:=by omega
 rw [e1,e2];grind
theorem Mid.other {A B m:Pt} (h:Mid A B m) (p:Pt):crs m A p=-crs m B p:=by
 have h1:=h.x;have h2:=h.y
 unfold crs
 have e1:A.1=2*m.1-B.1:=by omega
 have e2:A.2=2*m.2-B.2:=by omega
 rw [e1,e2];grind
theorem Mid.symm {A B m:Pt} (h:Mid A B m):Mid B A m:=⟨by have:=h.x;omega,by have:=h.y;omega⟩
theorem Mid.mir {A B m:Pt} (h:Mid A B m):Mid (mir A) (mir B) (mir m):=⟨by have:=h.x;unfold Pure.mir;dsimp only;omega,h.y⟩
section
variable {U:Int→Pt} {n:Nat} {G:Int→Int→Prop} (N:Net U n G) {m:Pt} {a b:Int} (g:G a b) (hm:Mid (U a) (U b) m)
include N g hm
theorem zj8:zd3 U n G m (U b):=by
 refine ⟨fun k rk hb=>?_,fun i j gij hp=>?_⟩
 ·refine N.out a b g k rk ⟨?_,?_⟩
  ·rw [hm.side,hb.1];rfl
  ·have h1:=hm.x;have h2:=hm.y
   have e1:(U a).1=2*m.1-(U b).1:=by omega
   have e2:(U a).2=2*m.2-(U b).2:=by omega
   have h3:=hb.2
   rw [e1,e2]
   have e:((U k).1-(2*m.1-(U b).1))*((U b).1-(U k).1)+((U k).2-(2*m.2-(U b).2))*((U b).2-(U k).2)=(((U k).1-m.1)*((U b).1-(U k).1)+((U k).2-m.2)*((U b).2-(U k).2))+(((U b).1-m.1)*((U b).1-(U k).1)+((U b).2-m.2)*((U b).2-(U k).2)):=by grind
   have e':((U b).1-m.1)*((U b).1-(U k).1)+((U b).2-m.2)*((U b).2-(U k).2)=(((U k).1-m.1)*((U b).1-(U k).1)+((U k).2-m.2)*((U b).2-(U k).2))+(((U b).1-(U k).1)*((U b).1-(U k).1)+((U b).2-(U k).2)*((U b).2-(U k).2)):=by grind
   have s1:=YF ((U b).1-(U k).1)
   have s2:=YF ((U b).2-(U k).2)
   omega
 ·obtain ⟨h1,h2⟩:=hp
  refine N.npc a b g i j gij ⟨?_,?_⟩
  ·rw [hm.side,hm.side]
   have:2*crs m (U b) (U i)*(2*crs m (U b) (U j))=4*(crs m (U b) (U i)*crs m (U b) (U j)):=by grind
   omega
  ·have e:=hm.two (U i) (U j)
   rcases Int.lt_trichotomy (crs (U i) (U j) (U b)) 0 with h|h|h
   ·refine qt ?_ h
    have:0<crs (U i) (U j) m:=by
     apply Decidable.byContradiction
     intro hn
     have:=qL (show crs (U i) (U j) m≤0 by omega) (Int.le_of_lt h)
     omega
    omega
   ·rw [h,Int.mul_zero] at h2
    omega
   ·refine qr ?_ h
    have:crs (U i) (U j) m<0:=by
     apply Decidable.byContradiction
     intro hn
     have:=q5 (show 0≤crs (U i) (U j) m by omega) (Int.le_of_lt h)
     omega
    omega
omit hm in
theorem zmq (hm:Mid (U a) (U b) m) {c:Int} (rc:inr c n) (hc:0<crs m (U b) (U c)) (sC:zd3 U n G m (U c)) (hno:∀k,¬InT U n m (U b) (U c) c k) {i j:Int} (gij:G i j) (hi:0<crs (U b) (U c) (U i)) (hj:crs (U b) (U c) (U j)<0) (hx:crs (U i) (U j) (U b)*crs (U i) (U j) (U c)<0):False:=by
 obtain ⟨ri,rj⟩:=N.ok i j gij
 have sB:=zj8 N g hm
 have dif:=zfH (U b) (U c) (U i) (U j)
 have hα:0<crs (U i) (U j) (U c):=by
  apply Decidable.byContradiction
  intro h
  have:=qL (show crs (U i) (U j) (U b)≤0 by omega) (show crs (U i) (U j) (U c)≤0 by omega)
  omega
 have hβ:crs (U i) (U j) (U b)<0:=by
  apply Decidable.byContradiction
  intro h
  have:=q5 (show 0≤crs (U i) (U j) (U b) by omega) (Int.le_of_lt hα)
  omega
 generalize hB:U b=B at *
 generalize hCC:U c=C at *
 have mP:=QS B C (U i) (U j) m B
 have mQ:=QS B C (U i) (U j) C m
 rw [qq B m,Int.mul_zero,Int.zero_sub] at mP
 rw [qk C m,Int.mul_zero,Int.sub_zero] at mQ
 have cmB:crs C m B=crs m B C:=jf m B C
 rw [cmB] at mQ
 have yP:0 < -(crs (U i) (U j) B*crs m B C):=by have:=qr hβ hc;omega
 have yQ:0<crs (U i) (U j) C*crs m B C:=zZ hα hc
 have xm:=QS m B (U i) (U j) C m
 rw [qq m C,Int.mul_zero,Int.zero_sub,cmB] at xm
 have R:crs B C (U i)*-(crs (U i) (U j) m*crs m B C)=crs m B (U i)*(crs (U i) (U j) C*crs m B C) - -(crs (U i) (U j) B*crs m B C)*crs C m (U i):=by
  rw [←xm,←mP,←mQ];grind
 have PCB:crs m B (U i)<0→0<crs (U i) (U j) m→False:=fun h1 h2=>by
  have hj':0<crs m B (U j):=by
   apply Decidable.byContradiction
   intro h
   have a1:=jo (Int.le_of_lt hi) (show crs m B (U j)≤0 by omega)
   have a2:=Yg hj h1
   omega
  exact sB.2 i j gij ⟨qr h1 hj',qt h2 hβ⟩
 have PCC:crs C m (U i)<0→crs (U i) (U j) m<0→False:=fun h1 h2=>by
  have hj':0<crs C m (U j):=by
   apply Decidable.byContradiction
   intro h
   have a1:=jo (Int.le_of_lt hi) (show crs C m (U j)≤0 by omega)
   have a2:=Yg hj h1
   omega
  refine sC.2 i j gij ⟨?_,qr h2 hα⟩
  rw [qf C m (U i),qf C m (U j)]
  have:-crs C m (U i)*-crs C m (U j)=crs C m (U i)*crs C m (U j):=by grind
  have:=qr h1 hj'
  omega
 rcases Int.lt_trichotomy (crs m B (U i)) 0 with hP|hP|hP
 ·rcases Int.lt_trichotomy (crs (U i) (U j) m) 0 with h|h|h
  ·refine PCC ?_ h
   apply Decidable.byContradiction
   intro hn
   have a0:=qr h hc
   have a1:=zZ hi (show 0 < -(crs (U i) (U j) m*crs m B C) by omega)
   have a2:=qr hP yQ
   have a3:=q5 (Int.le_of_lt yP) (show 0≤crs C m (U i) by omega)
   omega
  ·have hj':0<crs m B (U j):=by
    apply Decidable.byContradiction
    intro h
    have a1:=jo (Int.le_of_lt hi) (show crs m B (U j)≤0 by omega)
    have a2:=Yg hj hP
    omega
   have e:=hm.two (U i) (U j)
   have pp:∀p,crs (U a) (U b) p=2*crs m B p:=fun p=>by have:=hm.side p;rw [←hB];rwa [←hB] at this
   refine N.npc a b g i j gij ⟨?_,?_⟩
   ·rw [pp,pp]
    have:2*crs m B (U i)*(2*crs m B (U j))=4*(crs m B (U i)*crs m B (U j)):=by grind
    have:=qr hP hj'
    omega
   ·rw [hB]
    exact qt (by omega) hβ
  ·exact PCB hP h
 ·
  rw [hP,Int.zero_mul,Int.zero_sub] at R
  by_cases hQ:crs C m (U i)<0
  ·refine PCC hQ ?_
   apply Decidable.byContradiction
   intro hn
   have a0:=q5 (show 0≤crs (U i) (U j) m by omega) (Int.le_of_lt hc)
   have a1:=jo (Int.le_of_lt hi) (show -(crs (U i) (U j) m*crs m B C)≤0 by omega)
   have a2:=qt yP hQ
   omega
  ·by_cases hQ0:crs C m (U i)=0
   ·
    have e:=zdp m B C (U i)
    have at0:U i=m:=by
     have z1:crs B m (U i)=0:=by rw [qf,hP];rfl
     have f1:crs B C (U i)=crs B C m:=by
      have:crs B C m=crs m B C:=qS m B C
      omega
     exact zbo z1 f1 (by rw [qS m B C];exact hc)
    refine N.out a b g i ri ⟨?_,?_⟩
    ·have:=hm.side (U i)
     rw [hP] at this
     rw [hB]
     omega
    ·have h1:=hm.x;have h2:=hm.y
     rw [at0,hB]
     have e1:(U a).1=2*m.1-B.1:=by omega
     have e2:(U a).2=2*m.2-B.2:=by omega
     rw [e1,e2]
     have e3:(m.1-(2*m.1-B.1))*(B.1-m.1)+(m.2-(2*m.2-B.2))*(B.2-m.2)=(B.1-m.1)*(B.1-m.1)+(B.2-m.2)*(B.2-m.2):=by grind
     rw [e3]
     have s1:=YF (B.1-m.1)
     have s2:=YF (B.2-m.2)
     apply Decidable.byContradiction
     intro hn
     have y1:B.1-m.1=0:=by
      apply Decidable.byContradiction
      intro hx
      have:=zb4 hx
      omega
     have y2:B.2-m.2=0:=by
      apply Decidable.byContradiction
      intro hx
      have:=zb4 hx
      omega
     have:crs m B C=0:=by
      unfold crs
      rw [y1,y2]
      simp
     omega
   ·
    have e:=zdp m B C (U i)
    refine sB.1 i ri (zii (e:=C) hP ?_ ?_)
    ·have:crs m C (U i)=-crs C m (U i):=qf C m (U i)
     omega
    ·have f1:crs m C (U i)=-crs C m (U i):=qf C m (U i)
     have f2:crs m C B=-crs m B C:=qA m B C
     omega
 ·by_cases hQ:0≤crs C m (U i)
  ·refine hno i ⟨ri,hP,Int.le_of_lt hi,hQ,fun e=>?_⟩
   rw [e,hCC,qq] at hi
   omega
  ·refine PCC (by omega) ?_
   apply Decidable.byContradiction
   intro hn
   have a0:=q5 (show 0≤crs (U i) (U j) m by omega) (Int.le_of_lt hc)
   have a1:=jo (Int.le_of_lt hi) (show -(crs (U i) (U j) m*crs m B C)≤0 by omega)
   have a2:=zZ hP yQ
   have a3:=qt yP (show crs C m (U i)<0 by omega)
   omega
end
theorem zyT {U:Int→Pt} {n:Nat} {G:Int→Int→Prop} (N:Net U n G) {x y:Pt} (h:∀i j,G i j→0<crs x y (U i)→crs x y (U j)<0→crs (U i) (U j) x*crs (U i) (U j) y<0→False) {i j:Int} (g:G i j):¬PC x y (U i) (U j):=by
 rintro ⟨h1,h2⟩
 rcases Int.lt_trichotomy (crs x y (U i)) 0 with hi|hi|hi
 ·have hj:0<crs x y (U j):=by
   apply Decidable.byContradiction
   intro hn
   have:=qL (Int.le_of_lt hi) (show crs x y (U j)≤0 by omega)
   omega
  refine h j i (N.sym _ _ g) hj hi ?_
  rw [qf (U i) (U j) x,qf (U i) (U j) y]
  have:-crs (U i) (U j) x*-crs (U i) (U j) y=crs (U i) (U j) x*crs (U i) (U j) y:=by grind
  omega
 ·rw [hi,Int.zero_mul] at h1
  omega
 ·have hj:crs x y (U j)<0:=by
   apply Decidable.byContradiction
   intro hn
   have:=q5 (Int.le_of_lt hi) (show 0≤crs x y (U j) by omega)
   omega
  exact h i j g hi hj h2
theorem ziB {a b c d:Pt}:PC b a c d↔PC a b c d:=by
 unfold PC
 rw [qf a b c,qf a b d]
 have e:-crs a b c*-crs a b d=crs a b c*crs a b d:=by grind
 rw [e,Int.mul_comm (crs c d b)]
structure zxL (U:Int→Pt) (n:Nat) (G:Int→Int→Prop) (a b c:Int):Prop where
 r:inr c n
 pos:0<crs (U a) (U b) (U c)
 emp:∀k,inr k n→0<crs (U a) (U b) (U k)→0≤crs (U b) (U c) (U k)→0≤crs (U c) (U a) (U k)→k=c
 bc:∀i j,G i j→¬PC (U b) (U c) (U i) (U j)
 ca:∀i j,G i j→¬PC (U c) (U a) (U i) (U j)
theorem zza {U:Int→Pt} {n:Nat} {G:Int→Int→Prop} (N:Net U n G) {m:Pt} {a b:Int} (g:G a b) (hm:Mid (U a) (U b) m) {k0:Int} (r0:inr k0 n) (h0:0<crs (U a) (U b) (U k0)):∃c,zxL U n G a b c:=by
 have h0':0<crs m (U b) (U k0):=by have:=hm.side (U k0);omega
 obtain ⟨d,rd,hd,sd⟩:=zly N (m:=m) r0 h0'
 obtain ⟨r,hr⟩:=zku n fun k _=>0<crs m (U b) (U k)∧zd3 U n G m (U k)
 obtain ⟨p,hp,hl⟩:=zaB (fun p:Int×Int=>crs m (U b) (U p.1)) r (fun e=>by
  have:=(hr (d,d)).2 ⟨⟨rd,rd⟩,hd,sd⟩
  rw [e] at this
  cases this)
 obtain ⟨⟨rc,_⟩,hc,sC⟩:=(hr p).1 hp
 generalize p.1=c at rc hc sC hl
 have least:∀k,inr k n→0<crs m (U b) (U k)→zd3 U n G m (U k)→crs m (U b) (U c)≤crs m (U b) (U k):=fun k rk h s=>hl (k,k) ((hr (k,k)).2 ⟨⟨rk,rk⟩,h,s⟩)
 have sB:=zj8 N g hm
 have sA:=zj8 N (N.sym _ _ g) hm.symm
 have no1:∀k,¬InT U n m (U b) (U c) c k:=fun k hk=>by
  obtain ⟨e,he,se,hlt⟩:=zuG N rc sB sC hc hk
  have:=least e he.r he.h se
  omega
 have M:=N.mir
 have sA':zd3 (fun k=>mir (U k)) n G (mir m) (mir (U a)):=zg9.2 sA
 have sC':zd3 (fun k=>mir (U k)) n G (mir m) (mir (U c)):=zg9.2 sC
 have hc':0<crs (mir m) (mir (U a)) (mir (U c)):=by rw [Zc,hm.other];omega
 have no2:∀k,¬InT (fun k=>mir (U k)) n (mir m) (mir (U a)) (mir (U c)) c k:=fun k hk=>by
  obtain ⟨e,he,se,hlt⟩:=zuG M (c:=c) rc sA' sC' hc' hk
  have h1:=he.h
  rw [Zc,hm.other] at h1
  rw [Zc,Zc,hm.other,hm.other] at hlt
  have:=least e he.r (by omega) (zg9.1 se)
  omega
 refine ⟨c,rc,?_,fun k rk k1 k2 k3=>?_,fun i j gij=>?_,fun i j gij=>?_⟩
 ·have:=hm.side (U c);omega
 ·apply Decidable.byContradiction
  intro hne
  have hk:0<crs m (U b) (U k):=by have:=hm.side (U k);omega
  by_cases h:0≤crs (U c) m (U k)
  ·exact no1 k ⟨rk,hk,k2,h,hne⟩
  ·refine no2 k ⟨rk,?_,?_,?_,hne⟩
   ·rw [Zc,hm.other];omega
   ·rw [Zc,qf (U c) (U a) (U k)];omega
   ·rw [Zc];omega
 ·exact zyT N (fun i j gij h1 h2 h3=>zmq N g hm rc hc sC no1 gij h1 h2 h3) gij
 ·intro hpc
  have hpc':PC (mir (U a)) (mir (U c)) (mir (U i)) (mir (U j)):=znH.2 (ziB.1 hpc)
  exact zyT M (x:=mir (U a)) (y:=mir (U c)) (fun i j gij h1 h2 h3=>zmq M (a:=b) (b:=a) (N.sym _ _ g) hm.symm.mir (c:=c) rc hc' sC' no2 gij h1 h2 h3) gij hpc'
end Go.Proofs.YtpkkcjmblocjdaaGreat.Pure
end
section
namespace Go.Proofs.YtpkkcjmblocjdaaGreat.Pure
open Go.RowKit Go.Proofs.YtpkkcjmblocjdaaGreat.AM PL
structure zcu (U:Int→Pt) (n:Nat) (G:Int→Int→Prop) (a b c:Int):Prop where
 r:inr a n∧inr b n∧inr c n
 pos:0<crs (U a) (U b) (U c)
 emp:∀k,inr k n→0≤crs (U a) (U b) (U k)→0≤crs (U b) (U c) (U k)→0≤crs (U c) (U a) (U k)→k=a∨k=b∨k=c
 ab:∀i j,G i j→¬PC (U a) (U b) (U i) (U j)
 bc:∀i j,G i j→¬PC (U b) (U c) (U i) (U j)
 ca:∀i j,G i j→¬PC (U c) (U a) (U i) (U j)
theorem zcu.rot {U:Int→Pt} {n:Nat} {G:Int→Int→Prop} {a b c:Int} (T:zcu U n G a b c):zcu U n G b c a where
 r:=⟨T.r.2.1,T.r.2.2,T.r.1⟩
 pos:=by rw [qS];exact T.pos
 emp k hk h1 h2 h3:=by
  rcases T.emp k hk h3 h1 h2 with h|h|h
  ·exact .inr (.inr h)
  ·exact .inl h
  ·exact .inr (.inl h)
 ab:=T.bc
 bc:=T.ca
 ca:=T.ab
theorem zrd {U:Int→Pt} {n:Nat} {G:Int→Int→Prop} (N:Net U n G) {a b c k:Int} (ra:inr a n) (rb:inr b n) (rk:inr k n) (hout:¬Bet (U b) (U a) (U k)) (pos:0<crs (U a) (U b) (U c)) (h0:crs (U a) (U b) (U k)=0) (h1:0≤crs (U b) (U c) (U k)) (h2:0≤crs (U c) (U a) (U k)):k=a∨k=b:=by
 have e:=zdp (U a) (U b) (U c) (U k)
 have z:crs (U b) (U a) (U k)=0:=by rw [qf,h0];rfl
 have f:crs (U b) (U c) (U a)=crs (U a) (U b) (U c):=qS (U a) (U b) (U c)
 by_cases c1:crs (U b) (U c) (U k)=0
 ·refine .inr (N.inj k b rk rb ?_)
  have r:∀p:Pt,crs (U a) (2*(U a).1-(U c).1,2*(U a).2-(U c).2) p=crs (U c) (U a) p:=by intro p;unfold crs;grind
  have f2:crs (U c) (U a) (U b)=crs (U a) (U b) (U c):=jf (U a) (U b) (U c)
  exact zbo (e:=(2*(U a).1-(U c).1,2*(U a).2-(U c).2)) h0 (by rw [r,r];omega) (by rw [r];omega)
 ·by_cases c2:crs (U c) (U a) (U k)=0
  ·exact .inl (N.inj k a rk ra (zbo z (by omega:crs (U b) (U c) (U k)=crs (U b) (U c) (U a)) (by omega)))
  ·exact absurd (JX z (by omega:0<crs (U b) (U c) (U k)) (by omega)) hout
theorem zcS {a b p:Pt} (h:Bet a b p):Bet b a p:=by
 have h2:=h.2
 have e:(p.1-b.1)*(a.1-p.1)+(p.2-b.2)*(a.2-p.2)=(p.1-a.1)*(b.1-p.1)+(p.2-a.2)*(b.2-p.2):=by grind
 exact ⟨by rw [qf,h.1];rfl,by omega⟩
theorem zxL.tri3 {U:Int→Pt} {n:Nat} {G:Int→Int→Prop} (N:Net U n G) {a b c:Int} (g:G a b) (T:zxL U n G a b c):zcu U n G a b c where
 r:=⟨(N.ok a b g).1,(N.ok a b g).2,T.r⟩
 pos:=T.pos
 emp k hk h1 h2 h3:=by
  obtain ⟨ra,rb⟩:=N.ok a b g
  by_cases h:crs (U a) (U b) (U k)=0
  ·rcases zrd N ra rb hk (fun hb=>N.out a b g k hk (zcS hb)) T.pos h h2 h3 with h|h
   ·exact .inl h
   ·exact .inr (.inl h)
  ·exact .inr (.inr (T.emp k hk (by omega) h2 h3))
 ab i j gij:=N.npc a b g i j gij
 bc:=T.bc
 ca:=T.ca
def Sep (A B C i j:Pt):Prop:=(0≤crs i j A∧0≤crs i j B∧0≤crs i j C)∨(crs i j A≤0∧crs i j B≤0∧crs i j C≤0)∨(crs A B i≤0∧crs A B j≤0)∨(crs B C i≤0∧crs B C j≤0)∨(crs C A i≤0∧crs C A j≤0)
instance (A B C i j:Pt):Decidable (Sep A B C i j):=inferInstanceAs (Decidable (_∨_))
theorem zfG {A B C i j:Pt} (h:Sep B C A i j):Sep A B C i j:=by unfold Sep at *;omega
theorem zo0 {A B C i j:Pt} (h:Sep A B C j i):Sep A B C i j:=by
 unfold Sep at *
 have h1:=qf i j A;have h2:=qf i j B;have h3:=qf i j C
 omega
section
variable {U:Int→Pt} {n:Nat} {G:Int→Int→Prop} (N:Net U n G) {i j:Int} (g:G i j)
include N g
theorem zjW {x y:Pt} (hno:¬PC x y (U i) (U j)) (hs:crs (U i) (U j) x*crs (U i) (U j) y<0) (hn:¬(crs x y (U i)≤0∧crs x y (U j)≤0)):0≤crs x y (U i)∧0≤crs x y (U j):=by
 have h:¬crs x y (U i)*crs x y (U j)<0:=fun h=>hno ⟨h,hs⟩
 constructor
 ·apply Decidable.byContradiction
  intro h1
  exact h (qr (by omega) (by omega))
 ·apply Decidable.byContradiction
  intro h1
  exact h (qt (by omega) (by omega))
theorem zzO {a b c:Int} (T:zcu U n G a b c) (hn:¬Sep (U a) (U b) (U c) (U i) (U j)) (hi:i=a):False:=by
 subst hi
 obtain ⟨_,rj⟩:=N.ok i j g
 unfold Sep at hn
 have z1:crs (U i) (U j) (U i)=0:=qk _ _
 have z2:crs (U i) (U b) (U i)=0:=qk _ _
 have z3:crs (U c) (U i) (U i)=0:=qq _ _
 have f:=qS (U i) (U b) (U c)
 have pos:=T.pos
 have hs:crs (U i) (U j) (U b)*crs (U i) (U j) (U c)<0:=by
  rcases Int.lt_trichotomy (crs (U i) (U j) (U b)) 0 with h|h|h
  ·exact qr h (by omega)
  ·omega
  ·exact qt h (by omega)
 have h1:=zjW N g (T.bc i j g) hs (by omega)
 rcases T.emp j rj (by omega) h1.2 (by omega) with h|h|h
 ·subst h
  have:crs (U j) (U b) (U j)=0:=qk _ _
  omega
 ·subst h
  have:crs (U i) (U j) (U j)=0:=qq _ _
  omega
 ·subst h
  have:crs (U j) (U i) (U j)=0:=qk _ _
  omega
theorem znE {a b c:Int} (T:zcu U n G a b c) (hn:¬Sep (U a) (U b) (U c) (U i) (U j)):¬(0≤crs (U a) (U b) (U i)∧0≤crs (U b) (U c) (U i)∧0≤crs (U c) (U a) (U i)):=by
 rintro ⟨h1,h2,h3⟩
 rcases T.emp i (N.ok i j g).1 h1 h2 h3 with h|h|h
 ·exact zzO N g T hn h
 ·exact zzO N g T.rot (fun h=>hn (zfG h)) h
 ·exact zzO N g T.rot.rot (fun h=>hn (zfG (zfG h))) h
theorem ztK {a b c:Int} (T:zcu U n G a b c) (hn:¬Sep (U a) (U b) (U c) (U i) (U j)) (h1:crs (U i) (U j) (U a)*crs (U i) (U j) (U b)<0) (h2:crs (U i) (U j) (U c)*crs (U i) (U j) (U a)<0):False:=by
 have s1:=zjW N g (T.ab i j g) h1 (fun h=>hn (by unfold Sep;exact .inr (.inr (.inl h))))
 have s2:=zjW N g (T.ca i j g) h2 (fun h=>hn (by unfold Sep;exact .inr (.inr (.inr (.inr h)))))
 have n1:=znE N g T hn
 have n2:=znE N (N.sym _ _ g) T (fun h=>hn (zo0 h))
 exact hn (by unfold Sep;exact .inr (.inr (.inr (.inl (by omega)))))
theorem zsO {a b c:Int} (T:zcu U n G a b c) (hn:¬Sep (U a) (U b) (U c) (U i) (U j)) (h1:crs (U i) (U j) (U a)*crs (U i) (U j) (U b)<0) (h0:crs (U i) (U j) (U c)=0):False:=by
 have s1:=zjW N g (T.ab i j g) h1 (fun h=>hn (by unfold Sep;exact .inr (.inr (.inl h))))
 have n1:=znE N g T hn
 have n2:=znE N (N.sym _ _ g) T (fun h=>hn (zo0 h))
 have key:∀k l:Pt,crs k l (U c)=0→crs k l (U a)*crs k l (U b)<0→(crs (U b) (U c) k≤0∧crs (U c) (U a) k≤0)∨(0<crs (U b) (U c) k∧0<crs (U c) (U a) k):=by
  intro k l z hs
  have p:=Ym k l (U b) (U c) (U a)
  rw [z,Int.zero_mul,Int.zero_sub] at p
  have f1:crs k (U c) (U a)=crs (U c) (U a) k:=jf (U c) (U a) k ▸ rfl
  have f2:crs k (U b) (U c)=crs (U b) (U c) k:=jf (U b) (U c) k ▸ rfl
  rw [f1,f2] at p
  generalize crs k l (U a)=x at *
  generalize crs k l (U b)=y at *
  generalize crs (U b) (U c) k=u at *
  generalize crs (U c) (U a) k=v at *
  rcases Int.lt_trichotomy u 0 with hu|hu|hu
  ·refine .inl ⟨by omega,?_⟩
   apply Decidable.byContradiction
   intro hv
   rcases Int.lt_trichotomy x 0 with hx|hx|hx
   ·have hy:0<y:=by
     apply Decidable.byContradiction
     intro hy
     have:=qL (Int.le_of_lt hx) (show y≤0 by omega)
     omega
    have a1:=Yg hx hu
    have a2:=zZ hy (show 0<v by omega)
    omega
   ·rw [hx,Int.zero_mul] at hs;omega
   ·have hy:y<0:=by
     apply Decidable.byContradiction
     intro hy
     have:=q5 (Int.le_of_lt hx) (show 0≤y by omega)
     omega
    have a1:=qt hx hu
    have a2:=qr hy (show 0<v by omega)
    omega
  ·refine .inl ⟨by omega,?_⟩
   rw [hu,Int.mul_zero] at p
   apply Decidable.byContradiction
   intro hv
   rcases Int.lt_trichotomy y 0 with hy|hy|hy
   ·have:=qr hy (show 0<v by omega)
    omega
   ·rw [hy,Int.mul_zero] at hs;omega
   ·have:=zZ hy (show 0<v by omega)
    omega
  ·refine .inr ⟨hu,?_⟩
   apply Decidable.byContradiction
   intro hv
   rcases Int.lt_trichotomy x 0 with hx|hx|hx
   ·have hy:0<y:=by
     apply Decidable.byContradiction
     intro hy
     have:=qL (Int.le_of_lt hx) (show y≤0 by omega)
     omega
    have a1:=qr hx hu
    have a2:=jo (Int.le_of_lt hy) (show v≤0 by omega)
    omega
   ·rw [hx,Int.zero_mul] at hs;omega
   ·have hy:y<0:=by
     apply Decidable.byContradiction
     intro hy
     have:=q5 (Int.le_of_lt hx) (show 0≤y by omega)
     omega
    have a1:=zZ hx hu
    have a2:=qL (Int.le_of_lt hy) (show v≤0 by omega)
    omega
 have k1:=key (U i) (U j) h0 h1
 have k2:=key (U j) (U i) (by rw [qf,h0];rfl) (by
  rw [qf (U i) (U j) (U a),qf (U i) (U j) (U b)]
  have:-crs (U i) (U j) (U a)*-crs (U i) (U j) (U b)=crs (U i) (U j) (U a)*crs (U i) (U j) (U b):=by grind
  omega)
 exact hn (by unfold Sep;exact .inr (.inr (.inr (.inl (by omega)))))
theorem sep {a b c:Int} (T:zcu U n G a b c):Sep (U a) (U b) (U c) (U i) (U j):=by
 apply Decidable.byContradiction
 intro hn
 have hn':=hn
 have n2:¬Sep (U b) (U c) (U a) (U i) (U j):=fun h=>hn (zfG h)
 have n3:¬Sep (U c) (U a) (U b) (U i) (U j):=fun h=>hn (zfG (zfG h))
 unfold Sep at hn'
 rcases Int.lt_trichotomy (crs (U i) (U j) (U a)) 0 with ha|ha|ha<;>rcases Int.lt_trichotomy (crs (U i) (U j) (U b)) 0 with hb|hb|hb<;>rcases Int.lt_trichotomy (crs (U i) (U j) (U c)) 0 with hc|hc|hc
 ·omega
 ·omega
 ·exact ztK N g T.rot.rot n3 (qt hc ha) (qr hb hc)
 ·omega
 ·omega
 ·exact zsO N g T.rot.rot n3 (qt hc ha) hb
 ·exact ztK N g T.rot n2 (qt hb hc) (qr ha hb)
 ·exact zsO N g T hn (qr ha hb) hc
 ·exact ztK N g T hn (qr ha hb) (qt hc ha)
 ·omega
 ·omega
 ·exact zsO N g T.rot n2 (qr hb hc) ha
 ·omega
 ·omega
 ·omega
 ·exact zsO N g T.rot n2 (qt hb hc) ha
 ·omega
 ·omega
 ·exact ztK N g T hn (qt ha hb) (qr hc ha)
 ·exact zsO N g T hn (qt ha hb) hc
 ·exact ztK N g T.rot n2 (qr hb hc) (qt ha hb)
 ·exact zsO N g T.rot.rot n3 (qr hc ha) hb
 ·omega
 ·omega
 ·exact ztK N g T.rot.rot n3 (qr hc ha) (qt hb hc)
 ·omega
 ·omega
end
end Go.Proofs.YtpkkcjmblocjdaaGreat.Pure
end
section
namespace Go.Proofs.YtpkkcjmblocjdaaGreat.Pure
open Go.RowKit Go.Proofs.YtpkkcjmblocjdaaGreat.AM PL
def Opp (x y:Int):Prop:=(x≤0∧0≤y)∨(0≤x∧y≤0)
def Q3 (q q' a b:Pt):Prop:=(crs a b q=0∧crs a b q'=0∧crs q q' a=0∧crs q q' b=0)∨¬(Opp (crs a b q) (crs a b q')∧Opp (crs q q' a) (crs q q' b))
theorem zkU {x y:Int}:Opp y x↔Opp x y:=by unfold Opp;omega
theorem ziw {q q' a b:Pt} (h:Q3 q q' a b):Q3 q q' b a:=by
 unfold Q3 at *
 rcases h with ⟨h1,h2,h3,h4⟩|h
 ·exact .inl ⟨by rw [Jc,h1];rfl,by rw [Jc,h2];rfl,h4,h3⟩
 ·refine .inr fun ⟨h1,h2⟩=>h ⟨?_,zkU.1 h2⟩
  have e1:=Jc a b q
  have e2:=Jc a b q'
  unfold Opp at *
  omega
theorem zma {q q' a b:Pt} (h:Q3 q q' a b):Q3 q' q a b:=by
 unfold Q3 at *
 have e1:=Jc q q' a
 have e2:=Jc q q' b
 rcases h with ⟨h1,h2,h3,h4⟩|h
 ·exact .inl ⟨h2,h1,by omega,by omega⟩
 ·refine .inr fun ⟨h1,h2⟩=>h ⟨zkU.1 h1,?_⟩
  unfold Opp at *
  omega
def Fst (q q' w:Pt):Prop:=q.2<w.2∧w.2≤q'.2∧crs q q' w<0
instance (q q' w:Pt):Decidable (Fst q q' w):=inferInstanceAs (Decidable (_∧_))
theorem zke {a b q:Pt}:Rgt b a q↔Rgt a b q:=by
 unfold Rgt;rw [Jc a b q];omega
theorem zdC {x y:Int} (h1:0<x) (h2:0<y):0<x*y:=Int.mul_pos h1 h2
theorem zyY {x y:Int} (h1:x<0) (h2:y<0):0<x*y:=Int.mul_pos_of_neg_of_neg h1 h2
theorem zyH {x y:Int} (h1:0<x) (h2:y<0):x*y<0:=Int.mul_neg_of_pos_of_neg h1 h2
theorem zdN {x y:Int} (h1:x<0) (h2:0<y):x*y<0:=Int.mul_neg_of_neg_of_pos h1 h2
theorem zoQ (x:Int):x<0∨x=0∨0<x:=by omega
theorem zA3 (q q' a b:Pt):crs a b q*(q'.2-q.2)=crs q q' b*(a.2-q.2)-crs q q' a*(b.2-q.2)∧crs a b q'*(q'.2-q.2)=crs q q' b*(a.2-q'.2)-crs q q' a*(b.2-q'.2):=by
 unfold crs
 constructor<;>grind
theorem zxH {Q Q' A B h α β:Int} (e1:Q*h=B*α-A*β) (e2:Q'*h=B*(α-h)-A*(β-h)) (hh:0<h) (ha:α≤0) (hb:0<β) (hb':β≤h) (nt:¬(Opp Q Q'∧Opp A B)) (hz:¬(Q=0∧Q'=0∧A=0∧B=0)):0<Q↔B<0:=by
 have sQ:∀x:Int,(0<x*h↔0<x)∧(x*h<0↔x<0)∧(x*h=0↔x=0):=fun x=>by
  rcases zoQ x with c|c|c
  ·have:=zdN c hh;omega
  ·subst c;simp
  ·have:=zdC c hh;omega
 have q1:=sQ Q;have q2:=sQ Q'
 have sA:∀x:Int,(0<x*β↔0<x)∧(x*β<0↔x<0)∧(x*β=0↔x=0):=fun x=>by
  rcases zoQ x with c|c|c
  ·have:=zdN c hb;omega
  ·subst c;simp
  ·have:=zdC c hb;omega
 have a1:=sA A
 have a2:(0≤A→A*(β-h)≤0)∧(A≤0→0≤A*(β-h)):=⟨fun c=>Int.mul_nonpos_of_nonneg_of_nonpos c (by omega),fun c=>Int.mul_nonneg_of_nonpos_of_nonpos c (by omega)⟩
 have b1:(0≤B→B*α≤0)∧(B≤0→0≤B*α):=⟨fun c=>Int.mul_nonpos_of_nonneg_of_nonpos c (by omega),fun c=>Int.mul_nonneg_of_nonpos_of_nonpos c (by omega)⟩
 have b2:(0<B→B*(α-h)<0)∧(B<0→0<B*(α-h))∧(B=0→B*(α-h)=0):=⟨fun c=>zyH c (by omega),fun c=>zyY c (by omega),fun c=>by rw [c,Int.zero_mul]⟩
 unfold Opp at nt
 generalize Q*h=Qh at *
 generalize Q'*h=Qh' at *
 generalize A*β=Ab at *
 generalize A*(β-h)=Ah at *
 generalize B*α=Ba at *
 generalize B*(α-h)=Bh at *
 omega
theorem zxN {Q Q' A B h α β:Int} (e1:Q*h=B*α-A*β) (e2:Q'*h=B*(α-h)-A*(β-h)) (hh:0<h) (ha:α≤0) (hb:h<β) (nt:¬(Opp Q Q'∧Opp A B)) (hz:¬(Q=0∧Q'=0∧A=0∧B=0)):0<Q↔0<Q':=by
 have sQ:∀x:Int,(0<x*h↔0<x)∧(x*h<0↔x<0)∧(x*h=0↔x=0):=fun x=>by
  rcases zoQ x with c|c|c
  ·have:=zdN c hh;omega
  ·subst c;simp
  ·have:=zdC c hh;omega
 have q1:=sQ Q;have q2:=sQ Q'
 have a1:(0<A→0<A*β)∧(A<0→A*β<0)∧(A=0→A*β=0):=⟨fun c=>zdC c (by omega),fun c=>zdN c (by omega),fun c=>by rw [c,Int.zero_mul]⟩
 have a2:(0<A→0<A*(β-h))∧(A<0→A*(β-h)<0)∧(A=0→A*(β-h)=0):=⟨fun c=>zdC c (by omega),fun c=>zdN c (by omega),fun c=>by rw [c,Int.zero_mul]⟩
 have b1:(0≤B→B*α≤0)∧(B≤0→0≤B*α):=⟨fun c=>Int.mul_nonpos_of_nonneg_of_nonpos c (by omega),fun c=>Int.mul_nonneg_of_nonpos_of_nonpos c (by omega)⟩
 have b2:(0<B→B*(α-h)<0)∧(B<0→0<B*(α-h))∧(B=0→B*(α-h)=0):=⟨fun c=>zyH c (by omega),fun c=>zyY c (by omega),fun c=>by rw [c,Int.zero_mul]⟩
 unfold Opp at nt
 generalize Q*h=Qh at *
 generalize Q'*h=Qh' at *
 generalize A*β=Ab at *
 generalize A*(β-h)=Ah at *
 generalize B*α=Ba at *
 generalize B*(α-h)=Bh at *
 omega
theorem zxE {Q Q' A B h α β:Int} (e1:Q*h=B*α-A*β) (e2:Q'*h=B*(α-h)-A*(β-h)) (hh:0<h) (ha:0<α) (ha':α≤h) (hb:h<β) (nt:¬(Opp Q Q'∧Opp A B)) (hz:¬(Q=0∧Q'=0∧A=0∧B=0)):0<Q'↔A<0:=by
 have sQ:∀x:Int,(0<x*h↔0<x)∧(x*h<0↔x<0)∧(x*h=0↔x=0):=fun x=>by
  rcases zoQ x with c|c|c
  ·have:=zdN c hh;omega
  ·subst c;simp
  ·have:=zdC c hh;omega
 have q1:=sQ Q;have q2:=sQ Q'
 have a1:(0<A→0<A*β)∧(A<0→A*β<0)∧(A=0→A*β=0):=⟨fun c=>zdC c (by omega),fun c=>zdN c (by omega),fun c=>by rw [c,Int.zero_mul]⟩
 have a2:(0<A→0<A*(β-h))∧(A<0→A*(β-h)<0)∧(A=0→A*(β-h)=0):=⟨fun c=>zdC c (by omega),fun c=>zdN c (by omega),fun c=>by rw [c,Int.zero_mul]⟩
 have b1:(0<B→0<B*α)∧(B<0→B*α<0)∧(B=0→B*α=0):=⟨fun c=>zdC c (by omega),fun c=>zdN c (by omega),fun c=>by rw [c,Int.zero_mul]⟩
 have b2:(0≤B→B*(α-h)≤0)∧(B≤0→0≤B*(α-h)):=⟨fun c=>Int.mul_nonpos_of_nonneg_of_nonpos c (by omega),fun c=>Int.mul_nonneg_of_nonpos_of_nonpos c (by omega)⟩
 unfold Opp at nt
 generalize Q*h=Qh at *
 generalize Q'*h=Qh' at *
 generalize A*β=Ab at *
 generalize A*(β-h)=Ah at *
 generalize B*α=Ba at *
 generalize B*(α-h)=Bh at *
 omega
theorem zyx {Q Q' A B h α β:Int} (e1:Q*h=B*α-A*β) (e2:Q'*h=B*(α-h)-A*(β-h)) (hh:0<h) (ha:0<α) (ha':α≤h) (hb:0<β) (hb':β≤h) (nt:¬(Opp Q Q'∧Opp A B)) (hz:¬(Q=0∧Q'=0∧A=0∧B=0)):A<0↔B<0:=by
 have sQ:∀x:Int,(0<x*h↔0<x)∧(x*h<0↔x<0)∧(x*h=0↔x=0):=fun x=>by
  rcases zoQ x with c|c|c
  ·have:=zdN c hh;omega
  ·subst c;simp
  ·have:=zdC c hh;omega
 have q1:=sQ Q;have q2:=sQ Q'
 have a1:(0<A→0<A*β)∧(A<0→A*β<0)∧(A=0→A*β=0):=⟨fun c=>zdC c (by omega),fun c=>zdN c (by omega),fun c=>by rw [c,Int.zero_mul]⟩
 have a2:(0≤A→A*(β-h)≤0)∧(A≤0→0≤A*(β-h)):=⟨fun c=>Int.mul_nonpos_of_nonneg_of_nonpos c (by omega),fun c=>Int.mul_nonneg_of_nonpos_of_nonpos c (by omega)⟩
 have b1:(0<B→0<B*α)∧(B<0→B*α<0)∧(B=0→B*α=0):=⟨fun c=>zdC c (by omega),fun c=>zdN c (by omega),fun c=>by rw [c,Int.zero_mul]⟩
 have b2:(0≤B→B*(α-h)≤0)∧(B≤0→0≤B*(α-h)):=⟨fun c=>Int.mul_nonpos_of_nonneg_of_nonpos c (by omega),fun c=>Int.mul_nonneg_of_nonpos_of_nonpos c (by omega)⟩
 unfold Opp at nt
 generalize Q*h=Qh at *
 generalize Q'*h=Qh' at *
 generalize A*β=Ab at *
 generalize A*(β-h)=Ah at *
 generalize B*α=Ba at *
 generalize B*(α-h)=Bh at *
 omega
theorem zwd {q q' a b:Pt} (hh:q.2<q'.2) (hab:a.2≤b.2) (fr:Q3 q q' a b) :
  xor (decide (Rgt a b q)) (decide (Rgt a b q'))=xor (decide (Fst q q' a)) (decide (Fst q q' b)):=by
 obtain ⟨e1,e2⟩:=zA3 q q' a b
 rw [show a.2-q'.2=(a.2-q.2)-(q'.2-q.2) by omega,show b.2-q'.2=(b.2-q.2)-(q'.2-q.2) by omega] at e2
 have dd:∀(x y z w:Prop) [Decidable x] [Decidable y] [Decidable z] [Decidable w],((x↔y)↔(z↔w))→xor (decide x) (decide y)=xor (decide z) (decide w):=by
  intro x y z w _ _ _ _ h
  by_cases x<;>by_cases y<;>by_cases z<;>by_cases w<;>simp_all
 apply dd
 by_cases hz:crs a b q=0∧crs a b q'=0∧crs q q' a=0∧crs q q' b=0
 ·obtain ⟨z1,z2,z3,z4⟩:=hz
  unfold Rgt Fst
  rw [z1,z2,z3,z4]
  omega
 ·have nt:=fr.resolve_left hz
  unfold Rgt Fst
  generalize crs a b q=Q at *
  generalize crs a b q'=Q' at *
  generalize crs q q' a=A at *
  generalize crs q q' b=B at *
  by_cases c1:a.2≤q.2
  ·by_cases c2:b.2≤q.2
   ·omega
   ·by_cases c3:b.2≤q'.2
    ·have:=zxH e1 e2 (by omega) (by omega) (by omega) (by omega) nt hz
     omega
    ·have:=zxN e1 e2 (by omega) (by omega) (by omega) nt hz
     omega
  ·by_cases c2:a.2≤q'.2
   ·by_cases c3:b.2≤q'.2
    ·have:=zyx e1 e2 (by omega) (by omega) (by omega) (by omega) (by omega) nt hz
     omega
    ·have:=zxE e1 e2 (by omega) (by omega) (by omega) (by omega) nt hz
     omega
   ·omega
theorem znW {q q' a b:Pt} (hh:q.2<q'.2) (fr:Q3 q q' a b) :
  xor (decide (Rgt a b q)) (decide (Rgt a b q'))=xor (decide (Fst q q' a)) (decide (Fst q q' b)):=by
 by_cases c:a.2≤b.2
 ·exact zwd hh c fr
 ·have:=zwd hh (a:=b) (b:=a) (by omega) (ziw fr)
  rw [decide_eq_decide.2 (zke (a:=a) (b:=b) (q:=q)),decide_eq_decide.2 (zke (a:=a) (b:=b) (q:=q'))] at this
  rw [this,Bool.xor_comm]
theorem zyX {q q' a b:Pt} (hh:q.2=q'.2) (fr:Q3 q q' a b):decide (Rgt a b q)=decide (Rgt a b q'):=by
 rw [decide_eq_decide]
 have e3:crs q q' a=(q'.1-q.1)*(a.2-q.2):=by unfold crs;rw [←hh];simp
 have e4:crs q q' b=(q'.1-q.1)*(b.2-q.2):=by unfold crs;rw [←hh];simp
 by_cases hz:crs a b q=0∧crs a b q'=0∧crs q q' a=0∧crs q q' b=0
 ·obtain ⟨z1,z2,z3,z4⟩:=hz
  unfold Rgt
  rw [z1,z2]
  omega
 ·have nt:=fr.resolve_left hz
  rw [e3,e4] at nt
  have o:∀{d α β:Int},(α≤0∧0≤β)→Opp (d*α) (d*β):=by
   intro d α β ⟨h1,h2⟩
   unfold Opp
   by_cases c:0≤d
   ·exact .inl ⟨Int.mul_nonpos_of_nonneg_of_nonpos c h1,Int.mul_nonneg c h2⟩
   ·exact .inr ⟨Int.mul_nonneg_of_nonpos_of_nonpos (by omega) h1,Int.mul_nonpos_of_nonpos_of_nonneg (by omega) h2⟩
  unfold Rgt
  rw [←hh]
  by_cases c1:a.2≤q.2∧q.2<b.2
  ·have:¬Opp (crs a b q) (crs a b q'):=fun h=>nt ⟨h,o (d:=q'.1-q.1) (α:=a.2-q.2) (β:=b.2-q.2) ⟨by omega,by omega⟩⟩
   unfold Opp at this
   omega
  ·by_cases c2:b.2≤q.2∧q.2<a.2
   ·have:¬Opp (crs a b q) (crs a b q'):=fun h=>nt ⟨h,zkU.1 (o (d:=q'.1-q.1) (α:=b.2-q.2) (β:=a.2-q.2) ⟨by omega,by omega⟩)⟩
    unfold Opp at this
    omega
   ·omega
theorem zaj (q q':Pt):∃F:Pt→Bool,∀a b,Q3 q q' a b→xor (decide (Rgt a b q)) (decide (Rgt a b q'))=xor (F a) (F b):=by
 rcases Int.lt_trichotomy q.2 q'.2 with h|h|h
 ·exact ⟨fun w=>decide (Fst q q' w),fun a b fr=>znW h fr⟩
 ·exact ⟨fun _=>false,fun a b fr=>by rw [zyX h fr];simp⟩
 ·refine ⟨fun w=>decide (Fst q' q w),fun a b fr=>?_⟩
  rw [Bool.xor_comm]
  exact znW h (zma fr)
def smN (f:Nat→Nat):Nat→Nat
 |0=>0
 |n+1=>smN f n+f n
theorem zhW (f g:Nat→Nat):∀n,smN (fun v=>f v+g v) n=smN f n+smN g n
 |0=>rfl
 |n+1=>by rw [smN,smN,smN,zhW f g n];omega
theorem zfN {f g:Nat→Nat}:∀n,(∀v,v<n→f v=g v)→smN f n=smN g n
 |0,_=>rfl
 |n+1,h=>by rw [smN,smN,zfN n (fun v hv=>h v (by omega)),h n (by omega)]
theorem zlu:∀n,smN (fun _=>0) n=0
 |0=>rfl
 |n+1=>by rw [smN,zlu n]
theorem znT (a:Int):∀n,smN (fun (v:Nat)=>if a=(v:Int) then 1 else 0) n=if 0≤a∧a<(n:Int) then 1 else 0
 |0=>by rw [smN,if_neg (by omega)]
 |n+1=>by
  rw [smN,znT a n]
  by_cases h1:a=(n:Int)
  ·rw [if_pos h1,if_neg (by omega),if_pos (by omega)]
  ·rw [if_neg h1]
   by_cases h2:0≤a∧a<(n:Int)
   ·rw [if_pos h2,if_pos (by omega)]
   ·rw [if_neg h2,if_neg (by omega)]
theorem zoC (L:List Pt) (s:Pt) (i:Int):dgr (s::L) i=dgr L i+((if s.1=i then 1 else 0)+(if s.2=i then 1 else 0)):=by
 unfold dgr
 rw [List.countP_cons,List.countP_cons]
 by_cases h1:s.1=i<;>by_cases h2:s.2=i<;>simp [h1,h2]<;>omega
theorem zrB {n:Nat}:∀{L:List Pt},(∀s∈L,oks n s)→smN (fun v=>dgr L (v:Int)) n=2*L.length
 |[],_=>by
  show smN (fun v=>0) n=0
  exact zlu n
 |s::L,h=>by
  have ih:=zrB (n:=n) (L:=L) (fun t ht=>h t (List.mem_cons_of_mem _ ht))
  have hs:=h s List.mem_cons_self
  rw [zfN (g:=fun (v:Nat)=>dgr L (v:Int)+((if s.1=(v:Int) then 1 else 0)+(if s.2=(v:Int) then 1 else 0))) n (fun v _=>zoC L s v),zhW,zhW,ih,znT,znT,if_pos (show 0≤s.1∧s.1<(n:Int) from hs.1),if_pos (show 0≤s.2∧s.2<(n:Int) from hs.2),List.length_cons]
  omega
def xs {α:Type} (L:List α) (h:α→Bool):Bool:=L.foldr (fun s b=>xor (h s) b) false
theorem jF {α:Type} (s:α) (L:List α) (h:α→Bool):xs (s::L) h=xor (h s) (xs L h):=rfl
theorem Kn {α:Type} {h h':α→Bool}:∀L:List α,(∀s∈L,h s=h' s)→xs L h=xs L h'
 |[],_=>rfl
 |s::L,hl=>by rw [jF,jF,hl s (by simp),Kn L fun t ht=>hl t (by simp [ht])]
theorem znS {α:Type} (h h':α→Bool):∀L:List α,xs L (fun s=>xor (h s) (h' s))=xor (xs L h) (xs L h')
 |[]=>rfl
 |s::L=>by
  rw [jF,jF,jF,znS h h' L]
  cases h s<;>cases h' s<;>cases xs L h<;>cases xs L h'<;>rfl
theorem zar (P:List Pt) (g:Int) (q:Pt):∀L:List Pt,par (L.map (sgm P g)) q=xs L fun s=>decide (Rgt (sc g (pt P s.1)) (sc g (pt P s.2)) q)
 |[]=>rfl
 |s::L=>by rw [List.map_cons,zkQ,jF,zar P g q L];rfl
def ztG (F:Int→Bool):List Pt→Nat
 |[]=>0
 |s::L=>ztG F L+((if F s.1=true then 1 else 0)+(if F s.2=true then 1 else 0))
theorem zsf (F:Int→Bool):∀L:List Pt,xs L (fun s=>xor (F s.1) (F s.2))=decide (ztG F L % 2=1)
 |[]=>rfl
 |s::L=>by
  rw [jF,zsf F L,ztG]
  rcases Nat.mod_two_eq_zero_or_one (ztG F L) with e|e<;>cases h1:F s.1<;>cases h2:F s.2<;>simp [e]<;>omega
theorem zlz (F:Int→Bool) (a:Int):∀n,smN (fun (v:Nat)=>if F (v:Int)=true then (if a=(v:Int) then 1 else 0) else 0) n=if (0≤a∧a<(n:Int))∧F a=true then 1 else 0
 |0=>by rw [smN,if_neg (by omega)]
 |n+1=>by
  rw [smN,zlz F a n]
  by_cases h1:a=(n:Int)
  ·subst h1
   rw [if_neg (fun h=>by have:=h.1.2;omega),if_pos rfl]
   by_cases hF:F (n:Int)=true
   ·rw [if_pos hF,if_pos ⟨by omega,hF⟩]
   ·rw [if_neg hF,if_neg (fun h=>hF h.2)]
  ·rw [if_neg h1,ite_self]
   by_cases h2:(0≤a∧a<(n:Int))∧F a=true
   ·rw [if_pos h2,if_pos ⟨by have:=h2.1;omega,h2.2⟩]
   ·rw [if_neg h2,if_neg (fun h=>h2 ⟨by have:=h.1;omega,h.2⟩)]
theorem zpC (F:Int→Bool) {n:Nat}:∀{L:List Pt},(∀s∈L,oks n s)→smN (fun (v:Nat)=>if F (v:Int)=true then dgr L (v:Int) else 0) n=ztG F L
 |[],_=>by
  rw [zfN (g:=fun _=>0) n (fun v _=>by split<;>rfl),zlu];rfl
 |s::L,h=>by
  have ih:=zpC F (n:=n) (L:=L) (fun t ht=>h t (List.mem_cons_of_mem _ ht))
  have hs:=h s List.mem_cons_self
  rw [zfN (g:=fun (v:Nat)=>(if F (v:Int)=true then dgr L (v:Int) else 0)+((if F (v:Int)=true then (if s.1=(v:Int) then 1 else 0) else 0)+(if F (v:Int)=true then (if s.2=(v:Int) then 1 else 0) else 0))) n (fun v _=>by
   rw [zoC];by_cases hF:F (v:Int)=true<;>simp [hF]),zhW,zhW,ih,zlz,zlz,ztG]
  have h1:(if (0≤s.1∧s.1<(n:Int))∧F s.1=true then 1 else 0)=if F s.1=true then 1 else 0:=by
   by_cases hF:F s.1=true
   ·rw [if_pos hF,if_pos ⟨hs.1,hF⟩]
   ·rw [if_neg hF,if_neg (fun h=>hF h.2)]
  have h2:(if (0≤s.2∧s.2<(n:Int))∧F s.2=true then 1 else 0)=if F s.2=true then 1 else 0:=by
   by_cases hF:F s.2=true
   ·rw [if_pos hF,if_pos ⟨hs.2,hF⟩]
   ·rw [if_neg hF,if_neg (fun h=>hF h.2)]
  rw [h1,h2]
theorem zo6 {f:Nat→Nat}:∀n,(∀v,v<n→f v % 2=0)→smN f n % 2=0
 |0,_=>rfl
 |n+1,h=>by
  have:=zo6 n (fun v hv=>h v (by omega))
  have:=h n (by omega)
  rw [smN];omega
theorem zst {n:Nat} {L:List Pt} (lp:Lp n L) (F:Int→Bool):xs L (fun s=>xor (F s.1) (F s.2))=false:=by
 rw [zsf,←zpC F (fun s hs=>(lp.ok s hs).1)]
 refine decide_eq_false ?_
 rw [zo6]
 ·decide
 ·intro v hv
  rcases lp.deg v hv with e|e<;>rw [e]<;>split<;>rfl
theorem zpK {P L:List Pt} (lp:Lp P.length L) {g:Int} {q q':Pt} (fr:∀s∈L,Q3 q q' (sc g (pt P s.1)) (sc g (pt P s.2))):par (L.map (sgm P g)) q=par (L.map (sgm P g)) q':=by
 rw [zar,zar]
 obtain ⟨F,hF⟩:=zaj q q'
 have h0:=Kn (h:=fun s:Pt=>xor (decide (Rgt (sc g (pt P s.1)) (sc g (pt P s.2)) q)) (decide (Rgt (sc g (pt P s.1)) (sc g (pt P s.2)) q'))) (h':=fun s:Pt=>xor ((fun i=>F (sc g (pt P i))) s.1) ((fun i=>F (sc g (pt P i))) s.2)) L (fun s hs=>hF _ _ (fr s hs))
 have h1:=h0.trans (zst lp fun i=>F (sc g (pt P i)))
 rw [znS] at h1
 revert h1
 generalize xs L _=x
 generalize xs L _=y
 cases x<;>cases y<;>decide
theorem YX.lp {p:zy} (R:YX p):Lp p.1.length p.2.1:=zvV R.fine.okL R.fine.twoL R.n5
end Go.Proofs.YtpkkcjmblocjdaaGreat.Pure
end
section
namespace Go.Proofs.YtpkkcjmblocjdaaGreat.Pure
open Go.RowKit Go.Proofs.YtpkkcjmblocjdaaGreat.AM PL
structure Cen (A B C q:Pt):Prop where
 x:A.1+B.1+C.1=3*q.1
 y:A.2+B.2+C.2=3*q.2
theorem Cen.three {A B C q:Pt} (h:Cen A B C q) (u v:Pt):3*crs u v q=crs u v A+crs u v B+crs u v C:=by
 have h1:=h.x;have h2:=h.y
 unfold crs
 have e1:C.1=3*q.1-A.1-B.1:=by omega
 have e2:C.2=3*q.2-A.2-B.2:=by omega
 rw [e1,e2];grind
theorem Cen.rot {A B C q:Pt} (h:Cen A B C q):Cen B C A q:=⟨by have:=h.x;omega,by have:=h.y;omega⟩
theorem zuh {i j A B C:Pt} (ha:crs i j A=0) (hb:crs i j B=0) (hc:crs i j C=0) (hij:i≠j):crs A B C=0:=by
 have e1:crs A B C*(j.1-i.1)=(crs i j B-crs i j A)*(C.1-A.1)*-1+(crs i j C-crs i j A)*(B.1-A.1):=by unfold crs;grind
 have e2:crs A B C*(j.2-i.2)=(crs i j B-crs i j A)*(C.2-A.2)*-1+(crs i j C-crs i j A)*(B.2-A.2):=by unfold crs;grind
 rw [ha,hb,hc,Int.sub_self,Int.zero_mul,Int.zero_mul,Int.zero_mul,Int.add_zero] at e1 e2
 rcases Int.mul_eq_zero.1 e1 with h|h
 ·exact h
 ·rcases Int.mul_eq_zero.1 e2 with h'|h'
  ·exact h'
  ·exact absurd (Prod.ext (by omega) (by omega)) hij
section
variable {U:Int→Pt} {n:Nat} {G:Int→Int→Prop} (N:Net U n G) {i j:Int} (g:G i j) (hij:i≠j) {a b c:Int} (T:zcu U n G a b c)
include N g hij T
theorem zw0:U i≠U j:=fun e=>hij (N.inj i j (N.ok i j g).1 (N.ok i j g).2 e)
theorem zAo {q:Pt} (hm:Mid (U a) (U b) q) (hi:crs (U a) (U b) (U i)=0) (hj:crs (U a) (U b) (U j)=0) {x y:Int} (hx:0≤x) (hy:0≤y) (hxy:0<x+y) (hc:∀u v,x*crs u v (U j)+y*crs u v (U i)=(x+y)*crs u v q):(i=a∧j=b)∨(i=b∧j=a):=by
 obtain ⟨ra,rb,rc⟩:=T.r
 obtain ⟨ri,rj⟩:=N.ok i j g
 have pos:=T.pos
 have fA:crs (U b) (U c) (U a)=crs (U a) (U b) (U c):=qS (U a) (U b) (U c)
 have fB:crs (U b) (U c) (U b)=0:=qk _ _
 have fm:=hm.two (U b) (U c)
 have nob:∀k,inr k n→¬Bet (U b) (U a) (U k):=by
  intro k rk hb
  obtain ⟨P,Q,q0,q1,hq⟩:=zap hb
  have e1:=hq (U b) (U c)
  have e2:=hq (U c) (U a)
  have e3:=hq (U a) (U b)
  rw [fB,fA,Int.mul_zero,Int.zero_add] at e1
  rw [jf (U a) (U b) (U c),qq (U a) (U c),Int.mul_zero,Int.add_zero] at e2
  rw [qq (U b) (U a),qk (U a) (U b),Int.mul_zero,Int.mul_zero,Int.add_zero] at e3
  have hP:0<P:=by omega
  have z:=Qj hP e3
  have k1:0<crs (U b) (U c) (U k):=ql hP (by rw [e1];exact zZ q0 pos)
  have k2:0<crs (U c) (U a) (U k):=ql hP (by rw [e2];exact zZ (by omega) pos)
  rcases T.emp k rk (by omega) (by omega) (by omega) with h|h|h
  ·rw [h,qq] at k2;omega
  ·rw [h,qk] at k1;omega
  ·rw [h] at z;omega
 have zje:∀k,inr k n→crs (U a) (U b) (U k)=0→crs (U b) (U c) (U k)≤0∨crs (U a) (U b) (U c)≤crs (U b) (U c) (U k):=by
  intro k rk h0
  apply Decidable.byContradiction
  intro hn
  have z:crs (U b) (U a) (U k)=0:=by rw [qf,h0];rfl
  exact nob k rk (JX (e:=U c) z (by omega) (by omega))
 have e:=hc (U b) (U c)
 have pi:=zje i ri hi
 have pj:=zje j rj hj
 have zi:crs (U b) (U a) (U i)=0:=by rw [qf,hi];rfl
 have zj:crs (U b) (U a) (U j)=0:=by rw [qf,hj];rfl
 have atB:∀k,inr k n→crs (U a) (U b) (U k)=0→crs (U b) (U c) (U k)=0→k=b:=by
  intro k rk h0 h1
  have e:=zdp (U a) (U b) (U c) (U k)
  refine N.inj k b rk rb ?_
  have r:∀p:Pt,crs (U a) (2*(U a).1-(U c).1,2*(U a).2-(U c).2) p=crs (U c) (U a) p:=by intro p;unfold crs;grind
  have f2:crs (U c) (U a) (U b)=crs (U a) (U b) (U c):=jf (U a) (U b) (U c)
  exact zbo (e:=(2*(U a).1-(U c).1,2*(U a).2-(U c).2)) h0 (by rw [r,r];omega) (by rw [r];omega)
 have atA:∀k,inr k n→crs (U a) (U b) (U k)=0→crs (U b) (U c) (U k)=crs (U a) (U b) (U c)→k=a:=by
  intro k rk h0 h1
  have z:crs (U b) (U a) (U k)=0:=by rw [qf,h0];rfl
  exact N.inj k a rk ra (zbo z (by omega:crs (U b) (U c) (U k)=crs (U b) (U c) (U a)) (by omega))
 have strict:∀k,inr k n→crs (U a) (U b) (U k)=0→∀s t,inr s n→inr t n→crs (U a) (U b) (U s)=0→crs (U a) (U b) (U t)=0→crs (U b) (U c) (U s)<crs (U b) (U c) (U k)→crs (U b) (U c) (U k)<crs (U b) (U c) (U t)→Bet (U s) (U t) (U k):=by
  intro k rk hk s t rs rt hs ht h1 h2
  refine JX (e:=((U s).1+(U c).1-(U b).1,(U s).2+(U c).2-(U b).2)) ?_ ?_ ?_
  ·
   have e1:crs (U a) (U b) (U c)*crs (U s) (U t) (U k)=(crs (U a) (U b) (U t)-crs (U a) (U b) (U s))*(crs (U b) (U c) (U k)-crs (U b) (U c) (U s))+(crs (U a) (U b) (U k)-crs (U a) (U b) (U s))*(crs (U b) (U c) (U t)-crs (U b) (U c) (U s))*-1:=by unfold crs;grind
   rw [hs,ht,hk,Int.sub_self,Int.zero_mul,Int.zero_mul,Int.zero_mul,Int.add_zero] at e1
   rcases Int.mul_eq_zero.1 e1 with h|h
   ·omega
   ·exact h
  ·have r:crs (U s) ((U s).1+(U c).1-(U b).1,(U s).2+(U c).2-(U b).2) (U k)=crs (U b) (U c) (U k)-crs (U b) (U c) (U s):=by unfold crs;grind
   omega
  ·have r:crs (U s) ((U s).1+(U c).1-(U b).1,(U s).2+(U c).2-(U b).2) (U k)=crs (U b) (U c) (U k)-crs (U b) (U c) (U s):=by unfold crs;grind
   have r2:crs (U s) ((U s).1+(U c).1-(U b).1,(U s).2+(U c).2-(U b).2) (U t)=crs (U b) (U c) (U t)-crs (U b) (U c) (U s):=by unfold crs;grind
   omega
 have za:crs (U a) (U b) (U a)=0:=qk _ _
 have zb:crs (U a) (U b) (U b)=0:=qq _ _
 generalize hV:crs (U a) (U b) (U c)=V at *
 have two:2*(x*crs (U b) (U c) (U j)+y*crs (U b) (U c) (U i))=(x+y)*V:=by
  rw [e]
  have:2*((x+y)*crs (U b) (U c) q)=(x+y)*(2*crs (U b) (U c) q):=by grind
  rw [this,fm,fA,fB,Int.add_zero]
 have fin:∀s t:Int,inr s n→inr t n→crs (U a) (U b) (U s)=0→crs (U a) (U b) (U t)=0→(∀k,inr k n→¬Bet (U s) (U t) (U k))→crs (U b) (U c) (U s)≤0→V≤crs (U b) (U c) (U t)→s=b∧t=a:=by
  intro s t rs rt hs ht hno h1 h2
  have b0:crs (U b) (U c) (U s)=0:=by
   apply Decidable.byContradiction
   intro h
   exact hno b rb (strict b rb zb s t rs rt hs ht (by omega) (by omega))
  have b1:crs (U b) (U c) (U t)=V:=by
   apply Decidable.byContradiction
   intro h
   exact hno a ra (strict a ra za s t rs rt hs ht (by omega) (by omega))
  exact ⟨atB s rs hs b0,atA t rt ht b1⟩
 have n1:∀k,inr k n→¬Bet (U i) (U j) (U k):=fun k rk=>N.out i j g k rk
 have n2:∀k,inr k n→¬Bet (U j) (U i) (U k):=fun k rk=>N.out j i (N.sym _ _ g) k rk
 rcases pi with h1|h1<;>rcases pj with h2|h2
 ·exfalso
  have a1:=jo hx h2
  have a2:=jo hy h1
  have a3:=zZ hxy pos
  omega
 ·obtain ⟨h3,h4⟩:=fin i j ri rj hi hj n1 h1 h2
  exact .inr ⟨h3,h4⟩
 ·obtain ⟨h3,h4⟩:=fin j i rj ri hj hi n2 h2 h1
  exact .inl ⟨h4,h3⟩
 ·exfalso
  have a1:=Int.mul_le_mul_of_nonneg_left h2 hx
  have a2:=Int.mul_le_mul_of_nonneg_left h1 hy
  have a3:(x+y)*V=x*V+y*V:=by grind
  have a4:=zZ hxy pos
  omega
end
end Go.Proofs.YtpkkcjmblocjdaaGreat.Pure
end
section
namespace Go.Proofs.YtpkkcjmblocjdaaGreat.Pure
open Go.RowKit Go.Proofs.YtpkkcjmblocjdaaGreat.AM PL
section
variable {U:Int→Pt} {n:Nat} {G:Int→Int→Prop} (N:Net U n G) {i j:Int} (g:G i j) (hij:i≠j) {a b c:Int} (T:zcu U n G a b c)
include T
theorem zn6 {k:Int} (rk:inr k n):¬(crs (U a) (U b) (U k)=0∧0<crs (U b) (U c) (U k)∧0<crs (U c) (U a) (U k)):=by
 rintro ⟨h1,h2,h3⟩
 rcases T.emp k rk (by omega) (by omega) (by omega) with h|h|h
 ·rw [h,qq] at h3;omega
 ·rw [h,qk] at h2;omega
 ·have:=T.pos
  rw [h] at h1;omega
include N g hij
theorem hit {q m:Pt} (hm:Mid (U a) (U b) m) (hq:Cen (U a) (U b) (U c) q) {x y α β:Int} (hx:0≤x) (hy:0≤y) (hα:0≤α) (hβ:0≤β) (hs:x+y=α+β) (hp:0<x+y) (hc:∀u v,x*crs u v (U j)+y*crs u v (U i)=α*crs u v q+β*crs u v m):(i=a∧j=b)∨(i=b∧j=a):=by
 obtain ⟨ri,rj⟩:=N.ok i j g
 have pos:=T.pos
 have ne:U i≠U j:=zw0 N g hij T
 have q1:=hq.three (U a) (U b)
 have q2:=hq.three (U b) (U c)
 have q3:=hq.three (U c) (U a)
 have m1:=hm.two (U a) (U b)
 have m2:=hm.two (U b) (U c)
 have m3:=hm.two (U c) (U a)
 have f1:crs (U a) (U b) (U a)=0:=qk _ _
 have f2:crs (U a) (U b) (U b)=0:=qq _ _
 have f3:crs (U b) (U c) (U b)=0:=qk _ _
 have f4:crs (U b) (U c) (U c)=0:=qq _ _
 have f5:crs (U c) (U a) (U c)=0:=qk _ _
 have f6:crs (U c) (U a) (U a)=0:=qq _ _
 have f7:crs (U b) (U c) (U a)=crs (U a) (U b) (U c):=qS _ _ _
 have f8:crs (U c) (U a) (U b)=crs (U a) (U b) (U c):=jf _ _ _
 have h1:=hc (U a) (U b)
 have h2:=hc (U b) (U c)
 have h3:=hc (U c) (U a)
 have h4:=hc (U i) (U j)
 rw [qq (U j) (U i),qk (U i) (U j),Int.mul_zero,Int.mul_zero,Int.add_zero] at h4
 have q4:=hq.three (U i) (U j)
 have m4:=hm.two (U i) (U j)
 have alone:α=0→crs (U a) (U b) (U i)=0→crs (U a) (U b) (U j)=0→(i=a∧j=b)∨(i=b∧j=a):=fun h0 hi hj =>
  zAo N g hij T hm hi hj hx hy hp (fun u v=>by
   have:=hc u v
   rw [h0,Int.zero_mul,Int.zero_add] at this
   rw [this]
   congr 1
   omega)
 have onl:crs (U i) (U j) (U a)=0→crs (U i) (U j) (U b)=0→crs (U a) (U b) (U i)=0∧crs (U a) (U b) (U j)=0:=fun ha hb=>⟨zuh ha hb (qk _ _) ne,zuh ha hb (qq _ _) ne⟩
 have s1:(0≤crs (U i) (U j) (U a)∧0≤crs (U i) (U j) (U b)∧0≤crs (U i) (U j) (U c))∨(crs (U i) (U j) (U a)≤0∧crs (U i) (U j) (U b)≤0∧crs (U i) (U j) (U c)≤0)→(i=a∧j=b)∨(i=b∧j=a):=by
  intro hS
  have z:α=0∨crs (U i) (U j) q=0:=by
   by_cases hz:α=0
   ·exact .inl hz
   ·refine .inr ?_
    rcases hS with ⟨b1,b2,b3⟩|⟨b1,b2,b3⟩
    ·have a1:=q5 hβ (show 0≤crs (U i) (U j) m by omega)
     apply Decidable.byContradiction
     intro hn
     have:=zZ (show 0<α by omega) (show 0<crs (U i) (U j) q by omega)
     omega
    ·have a1:=jo hβ (show crs (U i) (U j) m≤0 by omega)
     apply Decidable.byContradiction
     intro hn
     have:=qt (show 0<α by omega) (show crs (U i) (U j) q<0 by omega)
     omega
  rcases z with hz|hz
  ·rw [hz,Int.zero_mul,Int.zero_add] at h4
   have hm0:crs (U i) (U j) m=0:=by
    rcases Int.mul_eq_zero.1 h4.symm with h|h
    ·omega
    ·exact h
   have:=onl (by omega) (by omega)
   exact alone hz this.1 this.2
  ·exfalso
   have:=zuh (A:=U a) (B:=U b) (C:=U c) (i:=U i) (j:=U j) (by omega) (by omega) (by omega) ne
   omega
 have zbj:∀φi φj φq φm:Int,φi≤0→φj≤0→0<φq→0<φm→x*φj+y*φi=α*φq+β*φm→False:=by
  intro φi φj φq φm a1 a2 a3 a4 e
  have b1:=jo hx a2
  have b2:=jo hy a1
  by_cases hz:α=0
  ·have b3:=zZ (show 0<β by omega) a4
   rw [hz,Int.zero_mul] at e
   omega
  ·have b3:=zZ (show 0<α by omega) a3
   have b4:=q5 hβ (Int.le_of_lt a4)
   omega
 rcases sep N g T with h|h|h|h|h
 ·exact s1 (.inl h)
 ·exact s1 (.inr h)
 ·
  have b1:=jo hx h.2
  have b2:=jo hy h.1
  have hm0:crs (U a) (U b) m=0:=by omega
  rw [hm0,Int.mul_zero,Int.add_zero] at h1
  have hz:α=0:=by
   apply Decidable.byContradiction
   intro hn
   have:=zZ (show 0<α by omega) (show 0<crs (U a) (U b) q by omega)
   omega
  rw [hz,Int.zero_mul] at h1
  rw [hz,Int.zero_mul,Int.zero_add] at h2 h3
  have hb:β=x+y:=by omega
  by_cases x0:x=0
  ·exfalso
   rw [x0,Int.zero_mul,Int.zero_add] at h1 h2 h3
   have hy':0<y:=by omega
   have e1:crs (U a) (U b) (U i)=0:=Qj hy' h1
   have e2:y*(2*crs (U b) (U c) (U i))=y*crs (U a) (U b) (U c):=by
    have:y*(2*crs (U b) (U c) (U i))=2*(y*crs (U b) (U c) (U i)):=by grind
    rw [this,h2,hb,x0,Int.zero_add]
    have:2*(y*crs (U b) (U c) m)=y*(2*crs (U b) (U c) m):=by grind
    rw [this,m2,f7,f3,Int.add_zero]
   have e3:y*(2*crs (U c) (U a) (U i))=y*crs (U a) (U b) (U c):=by
    have:y*(2*crs (U c) (U a) (U i))=2*(y*crs (U c) (U a) (U i)):=by grind
    rw [this,h3,hb,x0,Int.zero_add]
    have:2*(y*crs (U c) (U a) m)=y*(2*crs (U c) (U a) m):=by grind
    rw [this,m3,f6,f8,Int.zero_add]
   have e2':=Int.eq_of_mul_eq_mul_left (by omega) e2
   have e3':=Int.eq_of_mul_eq_mul_left (by omega) e3
   exact zn6 T ri ⟨e1,by omega,by omega⟩
  ·by_cases y0:y=0
   ·exfalso
    rw [y0,Int.zero_mul,Int.add_zero] at h1 h2 h3
    have hx':0<x:=by omega
    have e1:crs (U a) (U b) (U j)=0:=Qj hx' h1
    have e2:x*(2*crs (U b) (U c) (U j))=x*crs (U a) (U b) (U c):=by
     have:x*(2*crs (U b) (U c) (U j))=2*(x*crs (U b) (U c) (U j)):=by grind
     rw [this,h2,hb,y0,Int.add_zero]
     have:2*(x*crs (U b) (U c) m)=x*(2*crs (U b) (U c) m):=by grind
     rw [this,m2,f7,f3,Int.add_zero]
    have e3:x*(2*crs (U c) (U a) (U j))=x*crs (U a) (U b) (U c):=by
     have:x*(2*crs (U c) (U a) (U j))=2*(x*crs (U c) (U a) (U j)):=by grind
     rw [this,h3,hb,y0,Int.add_zero]
     have:2*(x*crs (U c) (U a) m)=x*(2*crs (U c) (U a) m):=by grind
     rw [this,m3,f6,f8,Int.zero_add]
    have e2':=Int.eq_of_mul_eq_mul_left (by omega) e2
    have e3':=Int.eq_of_mul_eq_mul_left (by omega) e3
    exact zn6 T rj ⟨e1,by omega,by omega⟩
   ·refine alone hz ?_ ?_
    ·apply Decidable.byContradiction
     intro hn
     have:=qt (show 0<y by omega) (show crs (U a) (U b) (U i)<0 by omega)
     omega
    ·apply Decidable.byContradiction
     intro hn
     have:=qt (show 0<x by omega) (show crs (U a) (U b) (U j)<0 by omega)
     omega
 ·exact (zbj _ _ _ _ h.1 h.2 (by omega) (by omega) h2).elim
 ·exact (zbj _ _ _ _ h.1 h.2 (by omega) (by omega) h3).elim
theorem zki {q m:Pt} (hm:Mid (U a) (U b) m) (hq:Cen (U a) (U b) (U c) q) (hne:¬((i=a∧j=b)∨(i=b∧j=a))):Q3 q m (U i) (U j):=by
 by_cases hz:crs (U i) (U j) q=0∧crs (U i) (U j) m=0∧crs q m (U i)=0∧crs q m (U j)=0
 ·exact .inl hz
 ·refine .inr fun ⟨o1,o2⟩=>hne ?_
  have dif:=zfH q m (U i) (U j)
  have mix:=fun u v=>QS q m (U i) (U j) u v
  unfold Opp at o1 o2
  rcases o2 with ⟨u1,u2⟩|⟨u1,u2⟩
  ·
   refine hit N g hij T hm hq (x:=-crs q m (U i)) (y:=crs q m (U j)) (α:=-crs (U i) (U j) m) (β:=crs (U i) (U j) q) (by omega) (by omega) (by omega) (by omega) (by omega) (by omega) (fun u v=>?_)
   have:=mix u v
   have e1:-crs q m (U i)*crs u v (U j)+crs q m (U j)*crs u v (U i)=-(crs q m (U i)*crs u v (U j)-crs q m (U j)*crs u v (U i)):=by grind
   rw [e1,this]
   grind
  ·refine hit N g hij T hm hq (x:=crs q m (U i)) (y:=-crs q m (U j)) (α:=crs (U i) (U j) m) (β:=-crs (U i) (U j) q) (by omega) (by omega) (by omega) (by omega) (by omega) (by omega) (fun u v=>?_)
   have:=mix u v
   have e1:crs q m (U i)*crs u v (U j)+-crs q m (U j)*crs u v (U i)=crs q m (U i)*crs u v (U j)-crs q m (U j)*crs u v (U i):=by grind
   rw [e1,this]
   grind
theorem zvJ {A B p:Pt} (h:On A B p):∃x y:Int,0≤x∧0≤y∧0<x+y∧∀u v,x*crs u v B+y*crs u v A=(x+y)*crs u v p:=by
 obtain ⟨hne,_,h0,hb1,hb2⟩:=h
 refine ⟨(p.1-A.1)*(B.1-A.1)+(p.2-A.2)*(B.2-A.2),(B.1-p.1)*(B.1-A.1)+(B.2-p.2)*(B.2-A.2),?_,?_,?_,fun u v=>?_⟩
 ·have b:∀s t r:Int,Btw s t r→0≤(r-s)*(t-s):=by
   intro s t r h
   unfold Btw at h
   rcases Int.le_total s t with h'|h'
   ·exact q5 (by omega) (by omega)
   ·exact qL (by omega) (by omega)
  have:=b _ _ _ hb1
  have:=b _ _ _ hb2
  omega
 ·have b:∀s t r:Int,Btw s t r→0≤(t-r)*(t-s):=by
   intro s t r h
   unfold Btw at h
   rcases Int.le_total s t with h'|h'
   ·exact q5 (by omega) (by omega)
   ·exact qL (by omega) (by omega)
  have:=b _ _ _ hb1
  have:=b _ _ _ hb2
  omega
 ·have e:(p.1-A.1)*(B.1-A.1)+(p.2-A.2)*(B.2-A.2)+((B.1-p.1)*(B.1-A.1)+(B.2-p.2)*(B.2-A.2))=(B.1-A.1)*(B.1-A.1)+(B.2-A.2)*(B.2-A.2):=by grind
  rw [e]
  have s1:=YF (B.1-A.1)
  have s2:=YF (B.2-A.2)
  apply Decidable.byContradiction
  intro hn
  refine hne (Prod.ext ?_ ?_)
  ·apply Decidable.byContradiction
   intro hx
   have:=zb4 (show B.1-A.1≠0 by omega)
   omega
  ·apply Decidable.byContradiction
   intro hx
   have:=zb4 (show B.2-A.2≠0 by omega)
   omega
 ·have e:((p.1-A.1)*(B.1-A.1)+(p.2-A.2)*(B.2-A.2))*crs u v B+((B.1-p.1)*(B.1-A.1)+(B.2-p.2)*(B.2-A.2))*crs u v A=((p.1-A.1)*(B.1-A.1)+(p.2-A.2)*(B.2-A.2)+((B.1-p.1)*(B.1-A.1)+(B.2-p.2)*(B.2-A.2)))*crs u v p-crs A B p*((v.1-u.1)*(B.1-A.1)+(v.2-u.2)*(B.2-A.2)):=by unfold crs;grind
  rw [e,h0,Int.zero_mul,Int.sub_zero]
theorem znU {q m:Pt} (hm:Mid (U a) (U b) m) (hq:Cen (U a) (U b) (U c) q) (hne:¬((i=a∧j=b)∨(i=b∧j=a))):¬On (U i) (U j) m:=fun h=>by
 obtain ⟨x,y,hx,hy,hp,hc⟩:=zvJ N g hij T h
 exact hne (hit N g hij T hm hq hx hy (Int.le_refl 0) (by omega:0≤x+y) (by omega) hp (fun u v=>by rw [hc,Int.zero_mul,Int.zero_add]))
theorem zr8 {q m:Pt} (hm:Mid (U a) (U b) m) (hq:Cen (U a) (U b) (U c) q) (hne:¬((i=a∧j=b)∨(i=b∧j=a))):¬On (U i) (U j) q:=fun h=>by
 obtain ⟨x,y,hx,hy,hp,hc⟩:=zvJ N g hij T h
 exact hne (hit N g hij T hm hq hx hy (by omega:0≤x+y) (Int.le_refl 0) (by omega) hp (fun u v=>by rw [hc,Int.zero_mul,Int.add_zero]))
end
end Go.Proofs.YtpkkcjmblocjdaaGreat.Pure
end
section
namespace Go.Proofs.YtpkkcjmblocjdaaGreat.Pure
open Go.RowKit Go.Proofs.YtpkkcjmblocjdaaGreat.AM PL
def mrk (q m w:Pt):Bool:=if q.2<m.2 then decide (Fst q m w) else if m.2<q.2 then decide (Fst m q w) else false
theorem zua {q m a b:Pt} (fr:Q3 q m a b):xor (decide (Rgt a b q)) (decide (Rgt a b m))=xor (mrk q m a) (mrk q m b):=by
 unfold mrk
 by_cases h:q.2<m.2
 ·rw [if_pos h,if_pos h];exact znW h fr
 ·rw [if_neg h,if_neg h]
  by_cases h':m.2<q.2
  ·rw [if_pos h',if_pos h',Bool.xor_comm];exact znW h' (zma fr)
  ·rw [if_neg h',if_neg h',zyX (by omega) fr];simp
def kap (A B:Pt):Bool:=decide (B.2<A.2∨(A.2=B.2∧A.1<B.1))
theorem zwE {A B q m:Pt} (hm:Mid A B m) (hne:crs A B q≠0):xor (xor (decide (Rgt A B q)) (decide (Rgt A B m))) (xor (mrk q m A) (mrk q m B))=xor (decide (0<crs A B q)) (kap A B):=by
 have x:=hm.x;have y:=hm.y
 have e0:crs A B m=0:=by have:=hm.two A B;rw [qk,qq] at this;omega
 have e1:crs A B q=2*crs m B q:=hm.side q
 have e2:crs q m A=-crs m B q:=by rw [jf m A q];exact hm.other q
 have e3:crs q m B=crs m B q:=jf m B q
 have e4:crs m q A=crs m B q:=by rw [qf q m A,e2];omega
 have e5:crs m q B=-crs m B q:=by rw [qf q m B,e3]
 have hz:A.2=B.2→(A.1<B.1→(0<crs A B q↔m.2<q.2)∧(crs A B q<0↔q.2<m.2))∧(B.1<A.1→(0<crs A B q↔q.2<m.2)∧(crs A B q<0↔m.2<q.2))∧A.1≠B.1:=by
  intro h
  have e:crs A B q=(B.1-A.1)*(q.2-m.2):=by
   unfold crs
   rw [show m.2=A.2 by omega,show B.2-A.2=0 by omega,Int.zero_mul,Int.sub_zero]
  rw [e]
  refine ⟨fun h1=>?_,fun h1=>?_,fun h1=>hne (by rw [e,h1,Int.sub_self,Int.zero_mul])⟩
  ·rcases Int.lt_trichotomy q.2 m.2 with c|c|c
   ·have:=qt (show 0<B.1-A.1 by omega) (show q.2-m.2<0 by omega);omega
   ·rw [c,Int.sub_self,Int.mul_zero];omega
   ·have:=zZ (show 0<B.1-A.1 by omega) (show 0<q.2-m.2 by omega);omega
  ·rcases Int.lt_trichotomy q.2 m.2 with c|c|c
   ·have:=Yg (show B.1-A.1<0 by omega) (show q.2-m.2<0 by omega);omega
   ·rw [c,Int.sub_self,Int.mul_zero];omega
   ·have:=qr (show B.1-A.1<0 by omega) (show 0<q.2-m.2 by omega);omega
 have hm0:decide (Rgt A B m)=false:=decide_eq_false (by unfold Rgt;omega)
 rw [hm0,Bool.xor_false]
 unfold mrk kap
 generalize crs m B q=X at *
 by_cases c1:q.2<m.2
 ·rw [if_pos c1,if_pos c1]
  by_cases h1:Rgt A B q<;>by_cases h2:Fst q m A<;>by_cases h3:Fst q m B<;>by_cases h4:0<crs A B q<;>by_cases h5:(B.2<A.2∨(A.2=B.2∧A.1<B.1))<;>simp only [h1,h2,h3,h4,h5,decide_true,decide_false]<;>first|rfl|(exfalso;unfold Rgt at h1;unfold Fst at h2 h3;omega)
 ·rw [if_neg c1,if_neg c1]
  by_cases c2:m.2<q.2
  ·rw [if_pos c2,if_pos c2]
   by_cases h1:Rgt A B q<;>by_cases h2:Fst m q A<;>by_cases h3:Fst m q B<;>by_cases h4:0<crs A B q<;>by_cases h5:(B.2<A.2∨(A.2=B.2∧A.1<B.1))<;>simp only [h1,h2,h3,h4,h5,decide_true,decide_false]<;>first|rfl|(exfalso;unfold Rgt at h1;unfold Fst at h2 h3;omega)
  ·rw [if_neg c2,if_neg c2]
   by_cases h1:Rgt A B q<;>by_cases h4:0<crs A B q<;>by_cases h5:(B.2<A.2∨(A.2=B.2∧A.1<B.1))<;>simp only [h1,h4,h5,decide_true,decide_false]<;>first|rfl|(exfalso;unfold Rgt at h1;omega)
theorem zm8 {α:Type}:∀L:List α,xs L (fun _=>false)=false
 |[]=>rfl
 |s::L=>by rw [jF,zm8 L];rfl
theorem zuZ (s0:Pt) (d:Bool):∀{L:List Pt},L.Nodup→s0∈L→xs L (fun s=>if s=s0 then d else false)=d
 |s::L,hn,hm=>by
  obtain ⟨h1,h2⟩:=List.nodup_cons.1 hn
  rw [jF]
  by_cases e:s=s0
  ·subst e
   rw [if_pos rfl,Kn (h':=fun _=>false) L (fun t ht=>if_neg (fun e=>h1 (by rw [←e];exact ht))),zm8,Bool.xor_false]
  ·rw [if_neg e,zuZ s0 d h2 ((List.mem_cons.1 hm).resolve_left (fun h=>e h.symm)),Bool.false_xor]
theorem Lp.nd {n:Nat} {L:List Pt} (lp:Lp n L):L.Nodup:=lp.two.imp fun {a b} h e=>h (by rw [e])
theorem zjj {P L:List Pt} (lp:Lp P.length L) {g:Int} {s0:Pt} (h0:s0∈L) {q m:Pt} (hm:Mid (sc g (pt P s0.1)) (sc g (pt P s0.2)) m) (fr:∀s∈L,s≠s0→Q3 q m (sc g (pt P s.1)) (sc g (pt P s.2))) (hne:crs (sc g (pt P s0.1)) (sc g (pt P s0.2)) q≠0) :
  xor (par (L.map (sgm P g)) q) (par (L.map (sgm P g)) m)=xor (decide (0<crs (sc g (pt P s0.1)) (sc g (pt P s0.2)) q)) (kap (sc g (pt P s0.1)) (sc g (pt P s0.2))):=by
 rw [←zwE hm hne,zar,zar,←znS]
 generalize hD:xor (xor (decide (Rgt (sc g (pt P s0.1)) (sc g (pt P s0.2)) q)) (decide (Rgt (sc g (pt P s0.1)) (sc g (pt P s0.2)) m))) (xor (mrk q m (sc g (pt P s0.1))) (mrk q m (sc g (pt P s0.2))))=D
 rw [Kn (h':=fun s:Pt=>xor (xor ((fun i=>mrk q m (sc g (pt P i))) s.1) ((fun i=>mrk q m (sc g (pt P i))) s.2)) (if s=s0 then D else false)) L (fun s hs=>?_),znS,zst lp fun i=>mrk q m (sc g (pt P i)),zuZ s0 D lp.nd h0,Bool.false_xor]
 by_cases e:s=s0
 ·rw [if_pos e,←hD,e]
  generalize xor (decide (Rgt (sc g (pt P s0.1)) (sc g (pt P s0.2)) q)) (decide (Rgt (sc g (pt P s0.1)) (sc g (pt P s0.2)) m))=x
  dsimp only
  generalize xor (mrk q m (sc g (pt P s0.1))) (mrk q m (sc g (pt P s0.2)))=y
  cases x<;>cases y<;>rfl
 ·rw [if_neg e,Bool.xor_false]
  exact zua (fr s hs e)
end Go.Proofs.YtpkkcjmblocjdaaGreat.Pure
end
section
namespace Go.Proofs.YtpkkcjmblocjdaaGreat.Pure
open Go.RowKit Go.Proofs.YtpkkcjmblocjdaaGreat.AM PL
theorem zyF {A B P Q I J:Pt} (hP:crs A B P=0) (hQ:0<crs A B Q) (hI:crs A B I≤0) (hJ:crs A B J≤0):¬PC P Q I J:=by
 rintro ⟨h1,h2⟩
 have mix:=QS P Q I J A B
 have dif:=zfH P Q I J
 rw [hP,Int.mul_zero,Int.zero_sub] at mix
 have sg1:∀x y:Int,x*y<0→(0<x∧y<0)∨(x<0∧0<y):=by
  intro x y h
  rcases Int.lt_trichotomy x 0 with hx|hx|hx
  ·rcases Int.lt_trichotomy y 0 with hy|hy|hy
   ·have:=Yg hx hy;omega
   ·rw [hy,Int.mul_zero] at h;omega
   ·exact .inr ⟨hx,hy⟩
  ·rw [hx,Int.zero_mul] at h;omega
  ·rcases Int.lt_trichotomy y 0 with hy|hy|hy
   ·exact .inl ⟨hx,hy⟩
   ·rw [hy,Int.mul_zero] at h;omega
   ·have:=zZ hx hy;omega
 rcases sg1 _ _ h1 with ⟨a1,a2⟩|⟨a1,a2⟩<;>rcases sg1 _ _ h2 with ⟨b1,b2⟩|⟨b1,b2⟩
 ·omega
 ·have t1:=jo (Int.le_of_lt a1) hJ
  have t2:=qL (Int.le_of_lt a2) hI
  have t3:=qr b1 hQ
  omega
 ·have t1:=qL (Int.le_of_lt a1) hJ
  have t2:=jo (Int.le_of_lt a2) hI
  have t3:=zZ b1 hQ
  omega
 ·omega
section
variable {U:Int→Pt} {n:Nat} {G:Int→Int→Prop} (N:Net U n G)
include N
theorem zsb {m:Pt} {a b:Int} (g:G a b) (hm:Mid (U a) (U b) m):(∃c,zxL U n G a b c)∨∀k,inr k n→crs (U a) (U b) (U k)≤0:=by
 by_cases h:∀k,inr k n→crs (U a) (U b) (U k)≤0
 ·exact .inr h
 ·refine .inl ?_
  obtain ⟨k,hk⟩:=Classical.not_forall.1 h
  obtain ⟨r,hk⟩:=Classical.not_imp.1 hk
  exact zza N g hm r (by omega)
def far (U:Int→Pt) (n:Nat) (C:Pt) (k:Int):Pt:=if k=(n:Int) then C else U k
omit N in
theorem je {n:Nat} {k:Int} (h:inr k n) (U:Int→Pt) (C:Pt):far U n C k=U k:=if_neg (by have:=h.2;omega)
omit N in
theorem zja (U:Int→Pt) (n:Nat) (C:Pt):far U n C (n:Int)=C:=if_pos rfl
variable {a b:Int} (g:G a b) (hall:∀k,inr k n→crs (U a) (U b) (U k)≤0) {C:Pt} (hC:0<crs (U a) (U b) C)
include g hall hC
theorem zn9:Net (far U n C) (n+1) G:=by
 have up:∀k,inr k n→inr k (n+1):=fun k h=>⟨h.1,by have:=h.2;omega⟩
 have dn:∀k,inr k (n+1)→inr k n∨k=(n:Int):=fun k h=>by
  by_cases e:k=(n:Int)
  ·exact .inr e
  ·exact .inl ⟨h.1,by have:=h.2;omega⟩
 have ne:∀k,inr k n→U k≠C:=fun k hk e=>by have:=hall k hk;rw [e] at this;omega
 refine ⟨fun i j h=>⟨up i (N.ok i j h).1,up j (N.ok i j h).2⟩,N.sym,fun i j hi hj e=>?_,fun i j h k hk hb=>?_,fun i j h k l h'=>?_⟩
 ·rcases dn i hi with ri|ri<;>rcases dn j hj with rj|rj
  ·rw [je ri,je rj] at e;exact N.inj i j ri rj e
  ·rw [je ri,rj,zja] at e;exact (ne i ri e).elim
  ·rw [je rj,ri,zja] at e;exact (ne j rj e.symm).elim
  ·rw [ri,rj]
 ·obtain ⟨ri,rj⟩:=N.ok i j h
  rw [je ri,je rj] at hb
  rcases dn k hk with rk|rk
  ·rw [je rk] at hb;exact N.out i j h k rk hb
  ·rw [rk,zja] at hb
   obtain ⟨X,M,h1,h2,h3⟩:=zap hb
   have e:=h3 (U a) (U b)
   have t1:=zZ (show 0<X by omega) hC
   have t2:=jo (show 0≤X-M by omega) (hall i ri)
   have t3:=jo (show 0≤M by omega) (hall j rj)
   omega
 ·obtain ⟨ri,rj⟩:=N.ok i j h
  obtain ⟨rk,rl⟩:=N.ok k l h'
  rw [je ri,je rj,je rk,je rl]
  exact N.npc i j h k l h'
theorem zq8:zcu (far U n C) (n+1) G a b (n:Int):=by
 have N':=zn9 N g hall hC
 obtain ⟨ra,rb⟩:=N.ok a b g
 obtain ⟨ra',rb'⟩:=N'.ok a b g
 have za:crs (U a) (U b) (U a)=0:=qk _ _
 have zb:crs (U a) (U b) (U b)=0:=qq _ _
 have hp:0<crs (far U n C a) (far U n C b) (far U n C (n:Int)):=by rw [je ra,je rb,zja];exact hC
 refine ⟨⟨ra',rb',⟨by omega,by omega⟩⟩,hp,fun k hk h1 h2 h3=>?_,N'.npc a b g,fun i j h=>?_,fun i j h=>?_⟩
 ·by_cases e:k=(n:Int)
  ·exact .inr (.inr e)
  ·have rk:inr k n:=⟨hk.1,by have:=hk.2;omega⟩
   have h0:crs (far U n C a) (far U n C b) (far U n C k)=0:=by
    rw [je ra,je rb,je rk] at h1 ⊢
    have:=hall k rk
    omega
   rcases zrd N' ra' rb' hk (fun hb=>N'.out a b g k hk (zcS hb)) hp h0 h2 h3 with h|h
   ·exact .inl h
   ·exact .inr (.inl h)
 ·obtain ⟨ri,rj⟩:=N.ok i j h
  rw [je rb,zja,je ri,je rj]
  exact zyF zb hC (hall i ri) (hall j rj)
 ·obtain ⟨ri,rj⟩:=N.ok i j h
  rw [je ra,zja,je ri,je rj]
  intro hpc
  exact zyF za hC (hall i ri) (hall j rj) (ziB.1 hpc)
end
theorem zrk {x y:Int} (h:x≠0∨y≠0):∃d:Pt,0<x*d.2-y*d.1∧d.2≠0:=by
 have s1:=YF x
 have s2:=YF y
 have hp:0<x*x+y*y:=by
  rcases h with h|h
  ·have:=zb4 h;omega
  ·have:=zb4 h;omega
 by_cases hx:x=0
 ·refine ⟨(x-y,x+y),?_,?_⟩
  ·have e:x*(x+y)-y*(x-y)=x*x+y*y:=by grind
   show 0<x*(x+y)-y*(x-y)
   omega
  ·show x+y≠0
   omega
 ·refine ⟨(-y,x),?_,hx⟩
  have e:x*x-y*-y=x*x+y*y:=by grind
  show 0<x*x-y*-y
  omega
theorem zwJ {P L:List Pt} {g:Int} {G:Int→Int→Prop} (N:Net (fun k=>sc g (pt P k)) P.length G) (hL:∀s∈L,G s.1 s.2∧s.1≠s.2) {a b:Int} (gab:G a b) {m:Pt} (hm:Mid (sc g (pt P a)) (sc g (pt P b)) m) {M:Int} (hM:∀s∈L,(-M≤g*(pt P s.1).2∧g*(pt P s.1).2≤M)∧(-M≤g*(pt P s.2).2∧g*(pt P s.2).2≤M)) (hMm:-M≤m.2∧m.2≤M) (hab:sc g (pt P a)≠sc g (pt P b)) (hth:∀c,∃q,Cen (sc g (pt P a)) (sc g (pt P b)) (sc g (pt P c)) q) :
  ∃q,0<crs (sc g (pt P a)) (sc g (pt P b)) q∧(∀s∈L,¬((s.1=a∧s.2=b)∨(s.1=b∧s.2=a))→Q3 q m (sc g (pt P s.1)) (sc g (pt P s.2)))∧((∃c,zcu (fun k=>sc g (pt P k)) P.length G a b c∧Cen (sc g (pt P a)) (sc g (pt P b)) (sc g (pt P c)) q)∨par (L.map (sgm P g)) q=false):=by
 have cp:∀{C q:Pt},Cen (sc g (pt P a)) (sc g (pt P b)) C q→3*crs (sc g (pt P a)) (sc g (pt P b)) q=crs (sc g (pt P a)) (sc g (pt P b)) C:=by
  intro C q h
  have:=h.three (sc g (pt P a)) (sc g (pt P b))
  rw [qk,qq] at this
  omega
 rcases zsb N gab hm with ⟨c,T⟩|hall
 ·have T3:=T.tri3 N gab
  obtain ⟨q,hq⟩:=hth c
  refine ⟨q,?_,fun s hs hne=>zki N (hL s hs).1 (hL s hs).2 T3 hm hq hne,.inl ⟨c,T3,hq⟩⟩
  have:=cp hq
  have:=T.pos
  omega
 ·have hall:∀k,inr k P.length→crs (sc g (pt P a)) (sc g (pt P b)) (sc g (pt P k))≤0:=hall
  obtain ⟨d,h1,h2⟩:=zrk (x:=(sc g (pt P b)).1-(sc g (pt P a)).1) (y:=(sc g (pt P b)).2-(sc g (pt P a)).2) (by
   apply Decidable.byContradiction
   intro hn
   exact hab (Prod.ext (by omega) (by omega)))
  have hK:0<2*M+1:=by omega
  generalize hKK:2*M+1=K at hK
  have e0:crs (sc g (pt P a)) (sc g (pt P b)) m=0:=by have:=hm.two (sc g (pt P a)) (sc g (pt P b));rw [qk,qq] at this;omega
  have eq:crs (sc g (pt P a)) (sc g (pt P b)) (m.1+K*d.1,m.2+K*d.2)=K*(((sc g (pt P b)).1-(sc g (pt P a)).1)*d.2-((sc g (pt P b)).2-(sc g (pt P a)).2)*d.1):=by
   have:crs (sc g (pt P a)) (sc g (pt P b)) (m.1+K*d.1,m.2+K*d.2)=crs (sc g (pt P a)) (sc g (pt P b)) m+K*(((sc g (pt P b)).1-(sc g (pt P a)).1)*d.2-((sc g (pt P b)).2-(sc g (pt P a)).2)*d.1):=by unfold crs;grind
   rw [this,e0,Int.zero_add]
  have hpos:0<crs (sc g (pt P a)) (sc g (pt P b)) (m.1+K*d.1,m.2+K*d.2):=by rw [eq];exact zZ hK h1
  generalize hq0:((m.1+K*d.1,m.2+K*d.2):Pt)=q at hpos
  have hcen:Cen (sc g (pt P a)) (sc g (pt P b)) (3*q.1-(sc g (pt P a)).1-(sc g (pt P b)).1,3*q.2-(sc g (pt P a)).2-(sc g (pt P b)).2) q:=⟨by dsimp only;omega,by dsimp only;omega⟩
  have hCpos:=cp hcen
  generalize ((3*q.1-(sc g (pt P a)).1-(sc g (pt P b)).1,3*q.2-(sc g (pt P a)).2-(sc g (pt P b)).2):Pt)=C at hcen hCpos
  have hC:0<crs (sc g (pt P a)) (sc g (pt P b)) C:=by omega
  have N':=zn9 N gab hall hC
  have T':=zq8 N gab hall hC
  obtain ⟨ra,rb⟩:=N.ok a b gab
  refine ⟨q,hpos,fun s hs hne=>?_,.inr ?_⟩
  ·obtain ⟨rs1,rs2⟩:=N.ok _ _ (hL s hs).1
   have:=zki N' (hL s hs).1 (hL s hs).2 T' (q:=q) (m:=m) (by rw [je ra,je rb];exact hm) (by rw [je ra,je rb,zja];exact hcen) hne
   rw [je rs1,je rs2] at this
   exact this
  ·rw [zar,Kn (h':=fun _=>false) L (fun s hs=>?_),zm8]
   obtain ⟨h3,h4⟩:=hM s hs
   refine decide_eq_false fun hr=>?_
   have hy:q.2 < -M∨M<q.2:=by
    rw [←hq0]
    dsimp only
    rcases Int.lt_or_gt_of_ne h2 with hd|hd
    ·left
     have:=Int.mul_le_mul_of_nonneg_left (show d.2≤-1 by omega) (Int.le_of_lt hK)
     omega
    ·right
     have:=Int.mul_le_mul_of_nonneg_left (show 1≤d.2 by omega) (Int.le_of_lt hK)
     omega
   unfold Rgt sc at hr
   dsimp only at hr
   omega
end Go.Proofs.YtpkkcjmblocjdaaGreat.Pure
end
section
namespace Go.Proofs.YtpkkcjmblocjdaaGreat.Pure
open Go.RowKit Go.Proofs.YtpkkcjmblocjdaaGreat.AM PL
theorem YX.s4 {p:zy} (R:YX p):∀k,inr k p.1.length→∀s∈sgs p,¬Ins (pt p.1 s.1) (pt p.1 s.2) (pt p.1 k):=by
 intro i hi s hs
 obtain ⟨k,hk,rfl⟩:=List.mem_iff_getElem.1 hs
 have h:=R.n4
 unfold Pure.s4 at h
 have:=(zoX (zec p) (n:=p.1.length) (m:=(sgs p).length) _ 0 rfl (Nat.zero_le _)).1 h i.toNat k (Nat.zero_le _) (by have:=hi.1;have:=hi.2;omega) hk
 unfold zec at this
 rw [Int.toNat_of_nonneg hi.1,Qz hk] at this
 exact of_decide_eq_false this
theorem YX.s7 {p:zy} (R:YX p):∀s∈p.2.2,(K6 p.1 p.2.1 [s.1,s.2]).1=1:=by
 intro s hs
 obtain ⟨k,hk,rfl⟩:=List.mem_iff_getElem.1 hs
 have h:=R.n7
 unfold Pure.s7 at h
 have:=(Yo (zne p) (n:=p.2.2.length) (a:=0) _ 0 rfl (Nat.zero_le _)).1 h k (Nat.zero_le _) hk
 unfold zne at this
 rw [Qz hk] at this
 simpa using this
structure Rt (p:zy):Prop where
 fine:KC p
 s4:∀k,inr k p.1.length→∀s∈sgs p,¬Ins (pt p.1 s.1) (pt p.1 s.2) (pt p.1 k)
 lp:Lp p.1.length p.2.1
 s7:∀s∈p.2.2,(K6 p.1 p.2.1 [s.1,s.2]).1=1
theorem YX.rt {p:zy} (R:YX p):Rt p:=⟨R.fine,R.s4,R.lp,R.s7⟩
theorem Y7 (g:Int) (a b c:Pt):crs (sc g a) (sc g b) (sc g c)=g*g*crs a b c:=by unfold crs sc;grind
theorem zz6 {a b p:Pt} (h:Bet a b p):Btw a.1 b.1 p.1∧Btw a.2 b.2 p.2:=by
 obtain ⟨X,M,h1,h2,h3⟩:=zap h
 have w:∀s t r:Int,X*r=(X-M)*s+M*t→Btw s t r:=by
  intro s t r e
  have e1:X*(r-s)=M*(t-s):=by grind
  have e2:X*(t-r)=(X-M)*(t-s):=by grind
  unfold Btw
  rcases Int.lt_trichotomy s t with c|c|c
  ·have a1:=ql (show 0<X by omega) (by rw [e1];exact zZ h1 (by omega))
   have a2:=ql (show 0<X by omega) (by rw [e2];exact zZ (by omega) (by omega))
   omega
  ·have a1:=Qj (show 0<X by omega) (by rw [e1,c,Int.sub_self,Int.mul_zero])
   omega
  ·have a1:=Zr (show 0<X by omega) (by rw [e1];exact qt h1 (by omega))
   have a2:=Zr (show 0<X by omega) (by rw [e2];exact qt (by omega) (by omega))
   omega
 refine ⟨w _ _ _ ?_,w _ _ _ ?_⟩
 ·have:=h3 (0,0) (0,-1)
  have c:∀p:Pt,crs (0,0) (0,-1) p=p.1:=by intro p;unfold crs;grind
  rw [c,c,c] at this;exact this
 ·have:=h3 (0,0) (1,0)
  have c:∀p:Pt,crs (0,0) (1,0) p=p.2:=by intro p;unfold crs;grind
  rw [c,c,c] at this;exact this
theorem zzT {a b p:Pt} (h:Bet a b p):a≠b∧p≠a∧p≠b:=by
 obtain ⟨h0,h1⟩:=h
 refine ⟨fun e=>?_,fun e=>?_,fun e=>?_⟩
 ·subst e
  have s1:=YF (p.1-a.1)
  have s2:=YF (p.2-a.2)
  have e:(p.1-a.1)*(a.1-p.1)+(p.2-a.2)*(a.2-p.2)=-((p.1-a.1)*(p.1-a.1)+(p.2-a.2)*(p.2-a.2)):=by grind
  omega
 ·rw [e,Int.sub_self,Int.sub_self,Int.zero_mul,Int.zero_mul] at h1;omega
 ·rw [e,Int.sub_self,Int.sub_self,Int.mul_zero,Int.mul_zero] at h1;omega
theorem zwK {a b p:Pt} (fa:Fit a) (fb:Fit b) (fp:Fit p) (h:Bet a b p):Ins a b p:=by
 obtain ⟨h1,h2,h3⟩:=zzT h
 obtain ⟨h4,h5⟩:=zz6 h
 exact ⟨⟨h1,⟨fa,fb,fp⟩,h.1,h4,h5⟩,h2,h3⟩
theorem zlA {g:Int} (hg:0<g) {a b p:Pt}:Bet (sc g a) (sc g b) (sc g p)↔Bet a b p:=by
 unfold Bet
 rw [Y7]
 have e:((sc g p).1-(sc g a).1)*((sc g b).1-(sc g p).1)+((sc g p).2-(sc g a).2)*((sc g b).2-(sc g p).2)=g*g*((p.1-a.1)*(b.1-p.1)+(p.2-a.2)*(b.2-p.2)):=by unfold sc;grind
 rw [e]
 have gg:=zZ hg hg
 refine ⟨fun ⟨h1,h2⟩=>⟨Qj gg h1,ql gg h2⟩,fun ⟨h1,h2⟩=>⟨by rw [h1,Int.mul_zero],zZ gg h2⟩⟩
theorem zr2 {g:Int} (hg:0<g) {a b c d:Pt}:PC (sc g a) (sc g b) (sc g c) (sc g d)↔PC a b c d:=by
 unfold PC
 rw [Y7,Y7,Y7,Y7]
 have gg:=zZ (zZ hg hg) (zZ hg hg)
 have e:∀x y:Int,g*g*x*(g*g*y)=g*g*(g*g)*(x*y):=by intro x y;grind
 rw [e,e]
 exact ⟨fun ⟨h1,h2⟩=>⟨Zr gg h1,Zr gg h2⟩,fun ⟨h1,h2⟩=>⟨qt gg h1,qt gg h2⟩⟩
theorem zt2 {x y:Int}:sg x*sg y<0↔x*y<0:=by
 rcases Int.lt_trichotomy x 0 with hx|hx|hx<;>rcases Int.lt_trichotomy y 0 with hy|hy|hy
 ·have:=Yg hx hy;unfold sg;(repeat' split)<;>omega
 ·rw [hy,Int.mul_zero];unfold sg;(repeat' split)<;>omega
 ·have:=qr hx hy;unfold sg;(repeat' split)<;>omega
 ·rw [hx,Int.zero_mul];unfold sg;(repeat' split)<;>omega
 ·rw [hx,Int.zero_mul];unfold sg;(repeat' split)<;>omega
 ·rw [hx,Int.zero_mul];unfold sg;(repeat' split)<;>omega
 ·have:=qt hx hy;unfold sg;(repeat' split)<;>omega
 ·rw [hy,Int.mul_zero];unfold sg;(repeat' split)<;>omega
 ·have:=zZ hx hy;unfold sg;(repeat' split)<;>omega
theorem ziN {a b c d:Pt} (fa:Fit a) (fb:Fit b) (fc:Fit c) (fd:Fit d):Cro a b c d↔PC a b c d:=by
 unfold Cro PC ori
 rw [if_pos ⟨fa,fb,fc⟩,if_pos ⟨fa,fb,fd⟩,if_pos ⟨fc,fd,fa⟩,if_pos ⟨fc,fd,fb⟩,zt2,zt2]
theorem zx9 {a b c d:Pt} (fa:Fit a) (fb:Fit b) (fc:Fit c) (fd:Fit d) (hab:a≠b) (hcd:c≠d) (h:(QF a b c d).1≤1):¬PC a b c d:=by
 intro hp
 have hb:¬Bad a b c d:=by
  rintro (h|h|h)
  ·exact hab h
  ·exact hcd h
  ·exact h ⟨fa,fb,fc,fd⟩
 unfold QF how at h
 rw [if_neg hb,if_pos ((ziN fa fb fc fd).2 hp)] at h
 exact absurd h (by decide)
def U6 (p:zy) (k:Int):Pt:=sc 6 (pt p.1 k)
def GE (p:zy) (i j:Int):Prop:=(i,j)∈edg p∨(j,i)∈edg p
theorem GE.symm {p:zy} {i j:Int} (h:GE p i j):GE p j i:=Or.symm h
theorem GE.ok {p:zy} (R:Rt p) {i j:Int} (h:GE p i j):(inr i p.1.length∧inr j p.1.length)∧i≠j:=by
 rcases h with h|h
 ·obtain ⟨⟨h1,h2⟩,h3⟩:=(X9 R.fine).ok _ h
  exact ⟨⟨h1,h2⟩,Int.ne_of_lt h3⟩
 ·obtain ⟨⟨h1,h2⟩,h3⟩:=(X9 R.fine).ok _ h
  exact ⟨⟨h2,h1⟩,fun e=>Int.ne_of_lt h3 e.symm⟩
theorem znC {α:Type} {r:α→α→Prop} (hr:∀{x y},r x y→r y x):∀{l:List α},l.Pairwise r→∀x∈l,∀y∈l,x≠y→r x y
 |a::l,h,x,hx,y,hy,ne=>by
  obtain ⟨h1,h2⟩:=List.pairwise_cons.1 h
  rcases List.mem_cons.1 hx with e1|m1<;>rcases List.mem_cons.1 hy with e2|m2
  ·exact absurd (e1.trans e2.symm) ne
  ·rw [e1];exact h1 y m2
  ·rw [e2];exact hr (h1 x m1)
  ·exact znC hr h2 x m1 y m2 ne
theorem zuF {p:zy} {s:Pt} (h:s∈QW p):∃q∈sgs p,s=q∨s=rv q:=by
 obtain ⟨q,hq,e⟩:=(zco p s).1 h
 refine ⟨q,hq,?_⟩
 rcases zcm q with h|h
 ·exact .inl (by rw [←e,h])
 ·exact .inr (by rw [←e,h])
theorem GE.out {p:zy} (R:Rt p) {i j:Int} (h:GE p i j) {k:Int} (hk:inr k p.1.length):¬Ins (pt p.1 i) (pt p.1 j) (pt p.1 k):=by
 have main:∀s∈edg p,¬Ins (pt p.1 s.1) (pt p.1 s.2) (pt p.1 k):=by
  intro s hs
  rcases (X9 R.fine).new s hs with h|⟨h,_⟩
  ·obtain ⟨q,hq,e⟩:=zuF h
   have h4:=R.s4 k hk q hq
   rcases e with rfl|rfl
   ·exact h4
   ·exact fun hi=>h4 (zeA.1 hi)
  ·exact zkB.1 h _ (zq2 hk)
 rcases h with h|h
 ·exact main _ h
 ·exact fun hi=>main _ h (zeA.1 hi)
theorem GE.npc {p:zy} (R:Rt p) {i j k l:Int} (h:GE p i j) (h':GE p k l):¬PC (pt p.1 i) (pt p.1 j) (pt p.1 k) (pt p.1 l):=by
 have J:=X9 R.fine
 have fit:∀s∈edg p,Fit (pt p.1 s.1)∧Fit (pt p.1 s.2)∧pt p.1 s.1≠pt p.1 s.2:=by
  intro s hs
  obtain ⟨⟨h1,h2⟩,h3⟩:=J.ok s hs
  exact ⟨R.fine.sm.fit h1,R.fine.sm.fit h2,fun e=>by have:=R.fine.distI h1 h2 e;omega⟩
 have main:∀s∈edg p,∀t∈edg p,¬PC (pt p.1 s.1) (pt p.1 s.2) (pt p.1 t.1) (pt p.1 t.2):=by
  intro s hs t ht
  obtain ⟨f1,f2,f3⟩:=fit s hs
  obtain ⟨g1,g2,g3⟩:=fit t ht
  by_cases e:s=t
  ·subst e
   rintro ⟨h1,_⟩
   rw [qk,Int.zero_mul] at h1
   omega
  ·have:=znC (r:=fun s q:Pt=>(QF (pt p.1 q.1) (pt p.1 q.2) (pt p.1 s.1) (pt p.1 s.2)).1≤1) (fun {x y} h=>by rw [Je];exact h) J.apart s hs t ht e
   exact fun hp=>zx9 f1 f2 g1 g2 f3 g3 (by rw [Je];exact this) hp
 rcases h with h|h<;>rcases h' with h'|h'
 ·exact main (i,j) h (k,l) h'
 ·exact fun hp=>main (i,j) h (l,k) h' (zhj hp)
 ·exact fun hp=>main (j,i) h (k,l) h' (ziB.1 hp)
 ·exact fun hp=>main (j,i) h (l,k) h' (ziB.1 (zhj hp))
theorem zuK {g:Int} (hg:0<g) {a b:Pt} (h:sc g a=sc g b):a=b:=by
 unfold sc at h
 have h1:=congrArg Prod.fst h
 have h2:=congrArg Prod.snd h
 exact Prod.ext (Int.eq_of_mul_eq_mul_left (by omega) h1) (Int.eq_of_mul_eq_mul_left (by omega) h2)
theorem zhx {p:zy} (R:Rt p):Net (U6 p) p.1.length (GE p) where
 ok i j h:=(h.ok R).1
 sym i j h:=h.symm
 inj i j hi hj e:=R.fine.distI hi hj (zuK (by decide) e)
 out i j h k hk hb:=h.out R hk (zwK (R.fine.sm.fit (h.ok R).1.1) (R.fine.sm.fit (h.ok R).1.2) (R.fine.sm.fit hk) ((zlA (by decide)).1 hb))
 npc i j h k l h' hp:=h.npc R h' ((zr2 (by decide)).1 hp)
end Go.Proofs.YtpkkcjmblocjdaaGreat.Pure
end
section
namespace Go.Proofs.YtpkkcjmblocjdaaGreat.Pure
open Go.RowKit Go.Proofs.YtpkkcjmblocjdaaGreat.AM PL
def Za (p:zy) (q:Pt):Bool:=par (p.2.1.map (sgm p.1 6)) q
def m6 (p:zy) (a b:Int):Pt:=sc 3 ((pt p.1 a).1+(pt p.1 b).1,(pt p.1 a).2+(pt p.1 b).2)
def c6 (p:zy) (a b c:Int):Pt:=sc 2 ((pt p.1 a).1+(pt p.1 b).1+(pt p.1 c).1,(pt p.1 a).2+(pt p.1 b).2+(pt p.1 c).2)
theorem zgD (p:zy) (a b:Int):Mid (U6 p a) (U6 p b) (m6 p a b):=by
 unfold U6 m6 sc
 constructor<;>(dsimp only;omega)
theorem zaS (p:zy) (a b c:Int):Cen (U6 p a) (U6 p b) (U6 p c) (c6 p a b c):=by
 unfold U6 c6 sc
 constructor<;>(dsimp only;omega)
theorem zfE (p:zy) (a b:Int):m6 p b a=m6 p a b:=by unfold m6;rw [Int.add_comm,Int.add_comm (pt p.1 b).2]
theorem zkS (p:zy) (a b c:Int):c6 p b c a=c6 p a b c:=by unfold c6;congr 2<;>omega
theorem zdD (k g:Int) (a:Pt):sc k (sc g a)=sc (k*g) a:=by unfold sc;dsimp only;rw [Int.mul_assoc,Int.mul_assoc]
theorem zAe {k:Int} (hk:0<k) {a b q:Pt}:Rgt (sc k a) (sc k b) (sc k q)↔Rgt a b q:=by
 unfold Rgt
 rw [Y7]
 have kk:=zZ hk hk
 have e1:0<k*k*crs a b q↔0<crs a b q:=⟨ql kk,zZ kk⟩
 have e2:k*k*crs a b q<0↔crs a b q<0:=⟨Zr kk,qt kk⟩
 have l1:∀x y:Int,k*x≤k*y↔x≤y:=fun x y=>Int.mul_le_mul_left hk
 have l2:∀x y:Int,k*x<k*y↔x<y:=fun x y=>Int.mul_lt_mul_left hk
 rw [e1,e2]
 unfold sc
 dsimp only
 rw [l1,l1,l2,l2]
theorem ziP {k:Int} (hk:0<k) (P L:List Pt) (g:Int) (q:Pt):par (L.map (sgm P (k*g))) (sc k q)=par (L.map (sgm P g)) q:=by
 rw [zar,zar]
 refine Kn L fun s hs=>?_
 rw [decide_eq_decide,←zdD,←zdD]
 exact zAe hk
theorem zyI {k:Int} (hk:0<k) {a b q:Pt} (fa:Fit (sc k a)) (fb:Fit (sc k b)) (fq:Fit (sc k q)) (h:On a b q):On (sc k a) (sc k b) (sc k q):=by
 obtain ⟨h1,_,h2,h3,h4⟩:=h
 have l1:∀x y:Int,x≤y→k*x≤k*y:=fun x y h=>Int.mul_le_mul_of_nonneg_left h (by omega)
 refine ⟨fun e=>h1 (zuK hk e),⟨fa,fb,fq⟩,by rw [Y7,h2,Int.mul_zero],?_,?_⟩
 ·exact ⟨h3.1.imp (l1 _ _) (l1 _ _),h3.2.imp (l1 _ _) (l1 _ _)⟩
 ·exact ⟨h4.1.imp (l1 _ _) (l1 _ _),h4.2.imp (l1 _ _) (l1 _ _)⟩
theorem Rt.q {p:zy} (R:Rt p) {i:Int} (h:inr i p.1.length):okq (pt p.1 i):=R.fine.sm.q _ (zq2 h)
theorem Rt.okl {p:zy} (R:Rt p) {g:Int} (h1:0<g) (h2:g≤6):okl p.1 g p.2.1=true:=by
 unfold Pure.okl
 rw [List.all_eq_true]
 intro s hs
 obtain ⟨⟨r1,r2⟩,ne⟩:=R.fine.okL s hs
 have q1:=R.q r1
 have q2:=R.q r2
 have f:∀q:Pt,okq q→Fit (sc g q):=by
  intro q h
  unfold okq at h
  have b:∀x:Int,-1048576≤x∧x≤1048576→-4294967296≤g*x∧g*x≤4294967296:=by
   intro x ⟨x1,x2⟩
   have a1:=Int.mul_le_mul_of_nonneg_left x1 (Int.le_of_lt h1)
   have a2:=Int.mul_le_mul_of_nonneg_left x2 (Int.le_of_lt h1)
   omega
  obtain ⟨b1,b2⟩:=b _ h.1
  obtain ⟨b3,b4⟩:=b _ h.2
  exact ⟨b1,b2,b3,b4⟩
 exact decide_eq_true ⟨⟨r1,r2⟩,fun e=>ne (R.fine.distI r1 r2 e),⟨zbm q1,zbm q2⟩,f _ q1,f _ q2⟩
theorem zxc {p:zy} (R:Rt p) {i:Int} (h:inr i p.1.length):Fit (U6 p i):=by
 have:=R.q h
 unfold okq at this
 unfold U6 sc Fit
 dsimp only
 omega
theorem ziD {L:List Pt} {P:List Pt} {g:Int} {q:Pt} (h:∀s∈L,¬On (sc g (pt P s.1)) (sc g (pt P s.2)) q):rim (L.map (sgm P g)) q=false:=by
 unfold rim
 rw [List.any_eq_false]
 intro s hs
 obtain ⟨t,ht,rfl⟩:=List.mem_map.1 hs
 have:=h t ht
 exact fun h=>this (of_decide_eq_true h)
section
variable {p:zy} (R:Rt p) {a b c:Int} (ha:inr a p.1.length) (hb:inr b p.1.length) (hc:inr c p.1.length)
include R ha hb
theorem zjS:(K6 p.1 p.2.1 [a,b]).1=whr (p.2.1.map (sgm p.1 2)) ((pt p.1 a).1+(pt p.1 b).1,(pt p.1 a).2+(pt p.1 b).2):=by
 have qa:=R.q ha
 have qb:=R.q hb
 have o:oki p.1 [a,b]=true:=by
  rw [za4,za4,decide_eq_true (show OkI p.1 a from ⟨ha,zbm qa⟩),decide_eq_true (show OkI p.1 b from ⟨hb,zbm qb⟩)]
  rfl
 have e:ziK p.1 (0,0) [a,b]=((pt p.1 a).1+(pt p.1 b).1,(pt p.1 a).2+(pt p.1 b).2):=by
  unfold ziK ziK ziK
  dsimp only
  rw [Int.zero_add,Int.zero_add]
 unfold K6 atv
 rw [if_pos o,e,if_pos ⟨R.okl (show (0:Int)<2 by decide) (show (2:Int)≤6 by decide),by unfold okq at qa qb;unfold Fit;dsimp only;omega⟩]
 rfl
theorem zo3 (h:(K6 p.1 p.2.1 [a,b]).1=1):Za p (m6 p a b)=true:=by
 rw [zjS R ha hb] at h
 unfold Za m6
 rw [show (6:Int)=3*2 from rfl,ziP (by decide)]
 unfold whr at h
 split at h
 ·cases h
 ·split at h
  ·assumption
  ·cases h
theorem zq7 (h:Za p (m6 p a b)=true) (hr:∀s∈p.2.1,¬On (U6 p s.1) (U6 p s.2) (m6 p a b)):(K6 p.1 p.2.1 [a,b]).1=1:=by
 have qa:=R.q ha
 have qb:=R.q hb
 rw [zjS R ha hb]
 unfold Za m6 at h
 rw [show (6:Int)=3*2 from rfl,ziP (by decide)] at h
 unfold whr
 rw [ziD (fun s hs ho=>hr s hs ?_),if_neg (by decide),if_pos h]
 have hh:=R.fine.okL s hs
 have f1:=zxc R hh.1.1
 have f2:=zxc R hh.1.2
 unfold U6 m6
 unfold U6 at f1 f2
 rw [show (6:Int)=3*2 from rfl,←zdD] at f1 f2 ⊢
 rw [←zdD]
 exact zyI (by decide) f1 f2 (by unfold okq at qa qb;unfold sc Fit;dsimp only;omega) ho
include hc
theorem zrD:(K6 p.1 p.2.1 [a,b,c]).1=whr (p.2.1.map (sgm p.1 3)) ((pt p.1 a).1+(pt p.1 b).1+(pt p.1 c).1,(pt p.1 a).2+(pt p.1 b).2+(pt p.1 c).2):=by
 have qa:=R.q ha
 have qb:=R.q hb
 have qc:=R.q hc
 have o:oki p.1 [a,b,c]=true:=by
  rw [za4,za4,za4,decide_eq_true (show OkI p.1 a from ⟨ha,zbm qa⟩),decide_eq_true (show OkI p.1 b from ⟨hb,zbm qb⟩),decide_eq_true (show OkI p.1 c from ⟨hc,zbm qc⟩)]
  rfl
 have e:ziK p.1 (0,0) [a,b,c]=((pt p.1 a).1+(pt p.1 b).1+(pt p.1 c).1,(pt p.1 a).2+(pt p.1 b).2+(pt p.1 c).2):=by
  unfold ziK ziK ziK ziK
  dsimp only
  rw [Int.zero_add,Int.zero_add]
 unfold K6 atv
 rw [if_pos o,e,if_pos ⟨R.okl (show (0:Int)<3 by decide) (show (3:Int)≤6 by decide),by unfold okq at qa qb qc;unfold Fit;dsimp only;omega⟩]
 rfl
theorem zug (h:(K6 p.1 p.2.1 [a,b,c]).1=1):Za p (c6 p a b c)=true:=by
 rw [zrD R ha hb hc] at h
 unfold Za c6
 rw [show (6:Int)=2*3 from rfl,ziP (by decide)]
 unfold whr at h
 split at h
 ·cases h
 ·split at h
  ·assumption
  ·cases h
theorem zrX (h:Za p (c6 p a b c)=true) (hr:∀s∈p.2.1,¬On (U6 p s.1) (U6 p s.2) (c6 p a b c)):(K6 p.1 p.2.1 [a,b,c]).1=1:=by
 have qa:=R.q ha
 have qb:=R.q hb
 have qc:=R.q hc
 rw [zrD R ha hb hc]
 unfold Za c6 at h
 rw [show (6:Int)=2*3 from rfl,ziP (by decide)] at h
 unfold whr
 rw [ziD (fun s hs ho=>hr s hs ?_),if_neg (by decide),if_pos h]
 have hh:=R.fine.okL s hs
 have f1:=zxc R hh.1.1
 have f2:=zxc R hh.1.2
 unfold U6 c6
 unfold U6 at f1 f2
 rw [show (6:Int)=2*3 from rfl,←zdD] at f1 f2 ⊢
 rw [←zdD]
 exact zyI (by decide) f1 f2 (by unfold okq at qa qb qc;unfold sc Fit;dsimp only;omega) ho
end
end Go.Proofs.YtpkkcjmblocjdaaGreat.Pure
end
section
namespace Go.Proofs.YtpkkcjmblocjdaaGreat.Pure
open Go.RowKit Go.Proofs.YtpkkcjmblocjdaaGreat.AM PL
theorem zdf {a b k:Pt} (h:Ins a b k):Bet a b k:=by
 obtain ⟨⟨h1,_,h0,hx,hy⟩,n1,n2⟩:=h
 have nn:∀s t r:Int,Btw s t r→0≤(r-s)*(t-r):=by
  intro s t r h
  unfold Btw at h
  rcases Int.le_total s t with c|c
  ·exact q5 (by omega) (by omega)
  ·exact qL (by omega) (by omega)
 have a1:=nn _ _ _ hx
 have a2:=nn _ _ _ hy
 refine ⟨h0,?_⟩
 apply Decidable.byContradiction
 intro hn
 have e1:(k.1-a.1)*(b.1-k.1)=0:=by omega
 have e2:(k.2-a.2)*(b.2-k.2)=0:=by omega
 unfold crs at h0
 rcases Int.mul_eq_zero.1 e1 with c1|c1<;>rcases Int.mul_eq_zero.1 e2 with c2|c2
 ·exact n1 (Prod.ext (by omega) (by omega))
 ·rw [c1,Int.mul_zero,Int.sub_zero] at h0
  rcases Int.mul_eq_zero.1 h0 with c3|c3
  ·exact n2 (Prod.ext (by omega) (by omega))
  ·exact n1 (Prod.ext (by omega) (by omega))
 ·rw [c2,Int.mul_zero,Int.zero_sub] at h0
  rcases Int.mul_eq_zero.1 (show (b.2-a.2)*(k.1-a.1)=0 by omega) with c3|c3
  ·exact n2 (Prod.ext (by omega) (by omega))
  ·exact n1 (Prod.ext (by omega) (by omega))
 ·exact n2 (Prod.ext (by omega) (by omega))
theorem zsv {a b c d:Pt} (hab:a≠b) (hcd:c≠d) (h0:¬Cro a b c d) (h1:¬Ins a b c) (h2:¬Ins a b d) (h3:¬Ins c d a) (h4:¬Ins c d b) (h5:¬(a=c∧b=d)) (h6:¬(a=d∧b=c)):(QF a b c d).1≤1:=by
 unfold QF
 split
 ·dsimp only;omega
 ·unfold how
  rw [if_neg h0]
  have e0:XS a b c d=0:=by
   unfold XS
   rw [decide_eq_false h1,decide_eq_false h2,decide_eq_false h3,decide_eq_false h4]
   rfl
  have e1:KT a b c d≠2:=by
   have n1:¬(decide (a=c)=true∧decide (a=d)=true):=fun h=>hcd ((of_decide_eq_true h.1).symm.trans (of_decide_eq_true h.2))
   have n2:¬(decide (b=c)=true∧decide (b=d)=true):=fun h=>hcd ((of_decide_eq_true h.1).symm.trans (of_decide_eq_true h.2))
   have n3:¬(decide (a=c)=true∧decide (b=c)=true):=fun h=>hab ((of_decide_eq_true h.1).trans (of_decide_eq_true h.2).symm)
   have n4:¬(decide (a=d)=true∧decide (b=d)=true):=fun h=>hab ((of_decide_eq_true h.1).trans (of_decide_eq_true h.2).symm)
   have n5:¬(decide (a=c)=true∧decide (b=d)=true):=fun h=>h5 ⟨of_decide_eq_true h.1,of_decide_eq_true h.2⟩
   have n6:¬(decide (a=d)=true∧decide (b=c)=true):=fun h=>h6 ⟨of_decide_eq_true h.1,of_decide_eq_true h.2⟩
   unfold KT
   revert n1 n2 n3 n4 n5 n6
   generalize decide (a=c)=x1
   generalize decide (a=d)=x2
   generalize decide (b=c)=x3
   generalize decide (b=d)=x4
   cases x1<;>cases x2<;>cases x3<;>cases x4<;>decide
  rw [e0,if_neg (by omega)]
  dsimp only
  (repeat' split)<;>omega
section
variable {p:zy} (R:Rt p)
include R
theorem zpd {b c:Int} (hb:inr b p.1.length) (hc:inr c p.1.length) (hne:b≠c) (hi:∀k,inr k p.1.length→¬Ins (pt p.1 b) (pt p.1 c) (pt p.1 k)) (hs:∀s∈edg p,(QF (pt p.1 b) (pt p.1 c) (pt p.1 s.1) (pt p.1 s.2)).1≤1) (hm:(K6 p.1 p.2.1 [b,c]).1=1):GE p b c:=by
 have main:∀b c:Int,inr b p.1.length→inr c p.1.length→b<c→(∀k,inr k p.1.length→¬Ins (pt p.1 b) (pt p.1 c) (pt p.1 k))→(∀s∈edg p,(QF (pt p.1 b) (pt p.1 c) (pt p.1 s.1) (pt p.1 s.2)).1≤1)→(K6 p.1 p.2.1 [b,c]).1=1→(b,c)∈edg p:=by
  intro b c hb hc hlt hi hs hm
  have:=zx5 (p:=p) (a:=b.toNat) (b:=c.toNat) (by have:=hb.1;omega) (by have:=hc.1;have:=hc.2;omega)
  rw [Int.toNat_of_nonneg hb.1,Int.toNat_of_nonneg hc.1] at this
  refine this.resolve_right fun h=>?_
  rw [zdo.2 ⟨zkB.2 fun q hq=>?_,zaQ.2 hs,hm⟩] at h
  ·cases h
  ·obtain ⟨i,hi',rfl⟩:=List.mem_iff_getElem.1 hq
   have:=hi (i:Int) ⟨by omega,by omega⟩
   rwa [Qz hi'] at this
 rcases Int.lt_or_gt_of_ne hne with h|h
 ·exact .inl (main b c hb hc h hi hs hm)
 ·refine .inr (main c b hc hb h (fun k hk h=>hi k hk (zeA.1 h)) (fun s h=>by rw [zcN];exact hs s h) ?_)
  rw [zjS R hc hb,Int.add_comm,Int.add_comm (pt p.1 c).2,←zjS R hb hc]
  exact hm
theorem qV {s:Pt} (hs:s∈p.2.1):GE p s.1 s.2:=by
 have h:up s∈edg p:=(X9 R.fine).old _ ((zco p _).2 ⟨s,List.mem_append_left _ hs,rfl⟩)
 rcases zcm s with e|e
 ·exact .inl (by rw [e] at h;exact h)
 ·exact .inr (by rw [e] at h;exact h)
def onL (p:zy) (a b:Int):Prop:=∃s∈p.2.1,(s.1=a∧s.2=b)∨(s.1=b∧s.2=a)
theorem zcs {a b c:Int} (T:zcu (U6 p) p.1.length (GE p) a b c) {s:Pt} (hs:s∈p.2.1) (hne:¬((s.1=a∧s.2=b)∨(s.1=b∧s.2=a))):Q3 (c6 p a b c) (m6 p a b) (U6 p s.1) (U6 p s.2) :=
 zki (zhx R) (qV R hs) ((qV R hs).ok R).2 T (zgD p a b) (zaS p a b c) hne
theorem zxl {a b c:Int} (T:zcu (U6 p) p.1.length (GE p) a b c) (h:¬onL p a b):Za p (c6 p a b c)=Za p (m6 p a b) :=
 zpK R.lp fun s hs=>zcs R T hs fun e=>h ⟨s,hs,e⟩
theorem zsi {a b c:Int} (T:zcu (U6 p) p.1.length (GE p) a b c) {s:Pt} (hs:s∈p.2.1):¬On (U6 p s.1) (U6 p s.2) (c6 p a b c):=by
 by_cases h:(s.1=a∧s.2=b)∨(s.1=b∧s.2=a)
 ·rw [←zkS]
  refine zr8 (zhx R) (qV R hs) ((qV R hs).ok R).2 T.rot (zgD p b c) (zaS p b c a) ?_
  have pos:=T.pos
  have h1:a≠c:=fun e=>by rw [e,qk] at pos;omega
  have h2:b≠c:=fun e=>by rw [e,qq] at pos;omega
  have h3:a≠b:=fun e=>by rw [e,zsw] at pos;omega
  omega
 ·exact zr8 (zhx R) (qV R hs) ((qV R hs).ok R).2 T (zgD p a b) (zaS p a b c) h
theorem ziY {a b c:Int} (T:zcu (U6 p) p.1.length (GE p) a b c) (h:Za p (c6 p a b c)=true):GE p a b:=by
 obtain ⟨ra,rb,rc⟩:=T.r
 have pos:=T.pos
 have nab:a≠b:=fun e=>by rw [e,zsw] at pos;omega
 have pab:pt p.1 a≠pt p.1 b:=fun e=>nab (R.fine.distI ra rb e)
 apply Classical.byContradiction
 intro hn
 refine hn ?_
 have hL:¬onL p a b:=by
  rintro ⟨s,hs,⟨e1,e2⟩|⟨e1,e2⟩⟩
  ·exact hn (by rw [←e1,←e2];exact qV R hs)
  ·exact hn (by rw [←e1,←e2];exact (qV R hs).symm)
 have noin:∀k,inr k p.1.length→¬Ins (pt p.1 a) (pt p.1 b) (pt p.1 k):=by
  intro k hk hi
  have hb:Bet (U6 p a) (U6 p b) (U6 p k):=(zlA (by decide)).2 (zdf hi)
  refine zn6 T hk ⟨hb.1,?_,?_⟩
  ·obtain ⟨X,M,h1,h2,h3⟩:=zap hb
   have e:=h3 (U6 p b) (U6 p c)
   rw [qk,Int.mul_zero,Int.add_zero,qS (U6 p a) (U6 p b) (U6 p c)] at e
   exact ql (x:=X) (by omega) (by rw [e];exact zZ (by omega) pos)
  ·obtain ⟨X,M,h1,h2,h3⟩:=zap hb
   have e:=h3 (U6 p c) (U6 p a)
   rw [qq,Int.mul_zero,Int.zero_add,jf (U6 p a) (U6 p b) (U6 p c)] at e
   exact ql (x:=X) (by omega) (by rw [e];exact zZ h1 pos)
 refine zpd R ra rb nab noin (fun s hs=>?_) (zq7 R ra rb (by rw [←zxl R T hL];exact h) fun s hs=>?_)
 ·have gs:GE p s.1 s.2:=.inl hs
  obtain ⟨⟨r1,r2⟩,ne⟩:=gs.ok R
  refine zsv pab (fun e=>ne (R.fine.distI r1 r2 e)) (fun hc=>?_) (noin _ r1) (noin _ r2) (gs.out R ra) (gs.out R rb) (fun e=>?_) (fun e=>?_)
  ·exact T.ab _ _ gs ((zr2 (by decide)).2 ((ziN (R.fine.sm.fit ra) (R.fine.sm.fit rb) (R.fine.sm.fit r1) (R.fine.sm.fit r2)).1 hc))
  ·exact hn (by rw [R.fine.distI ra r1 e.1,R.fine.distI rb r2 e.2];exact gs)
  ·exact hn (by rw [R.fine.distI ra r2 e.1,R.fine.distI rb r1 e.2];exact gs.symm)
 ·exact znU (zhx R) (qV R hs) ((qV R hs).ok R).2 T (zgD p a b) (zaS p a b c) fun e=>hL ⟨s,hs,e⟩
end
structure ZV (p:zy) (a b c:Int):Prop where
 T:zcu (U6 p) p.1.length (GE p) a b c
 ab:GE p a b
 bc:GE p b c
 ca:GE p c a
 mid:Za p (c6 p a b c)=true
theorem ZV.rot {p:zy} {a b c:Int} (h:ZV p a b c):ZV p b c a:=⟨h.T.rot,h.bc,h.ca,h.ab,by rw [zkS];exact h.mid⟩
theorem zwD {p:zy} (R:Rt p) {a b c:Int} (T:zcu (U6 p) p.1.length (GE p) a b c) (h:Za p (c6 p a b c)=true):ZV p a b c :=
 ⟨T,ziY R T h,ziY R T.rot (by rw [zkS];exact h),ziY R T.rot.rot (by rw [zkS,zkS];exact h),h⟩
theorem zzH {p:zy} {a b c:Int} {q:Pt} (h:Cen (U6 p a) (U6 p b) (U6 p c) q):q=c6 p a b c:=by
 have h1:=h.x;have h2:=h.y
 have h3:=(zaS p a b c).x;have h4:=(zaS p a b c).y
 exact Prod.ext (by omega) (by omega)
section
variable {p:zy} (R:Rt p)
include R
theorem zvX {a b:Int} (g:GE p a b):∃q,0<crs (U6 p a) (U6 p b) q∧(∀s∈p.2.1,¬((s.1=a∧s.2=b)∨(s.1=b∧s.2=a))→Q3 q (m6 p a b) (U6 p s.1) (U6 p s.2))∧(Za p q=true→∃c,ZV p a b c):=by
 have bd:∀i,inr i p.1.length→-6291456≤6*(pt p.1 i).2∧6*(pt p.1 i).2≤6291456:=by
  intro i hi
  have:=R.q hi
  unfold okq at this
  omega
 have ok:=g.ok R
 have ba:=bd _ ok.1.1
 have bb:=bd _ ok.1.2
 obtain ⟨q,h1,h2,h3⟩:=zwJ (P:=p.1) (L:=p.2.1) (g:=6) (G:=GE p) (zhx R) (fun s hs=>⟨qV R hs,((qV R hs).ok R).2⟩) g (zgD p a b) (M:=6291456) (fun s hs=>⟨bd _ ((qV R hs).ok R).1.1,bd _ ((qV R hs).ok R).1.2⟩) (by unfold m6 sc;dsimp only;omega) (fun e=>ok.2 ((zhx R).inj a b ok.1.1 ok.1.2 e)) (fun c=>⟨_,zaS p a b c⟩)
 refine ⟨q,h1,h2,fun hp=>?_⟩
 rcases h3 with ⟨c,T,hq⟩|h3
 ·exact ⟨c,zwD R T (by rw [←zzH hq];exact hp)⟩
 ·unfold Za at hp
  rw [h3] at hp
  cases hp
theorem zz7 {a b:Int} (g:GE p a b) (h:¬onL p a b):Za p (m6 p a b)=true:=by
 have main:∀s∈edg p,¬onL p s.1 s.2→Za p (m6 p s.1 s.2)=true:=by
  intro s hs hn
  obtain ⟨⟨r1,r2⟩,_⟩:=(X9 R.fine).ok s hs
  rcases (X9 R.fine).new s hs with h|⟨_,h⟩
  ·obtain ⟨q,hq,e⟩:=zuF h
   rcases List.mem_append.1 hq with hq|hq
   ·refine (hn ⟨q,hq,?_⟩).elim
    rcases e with rfl|rfl
    ·exact .inl ⟨rfl,rfl⟩
    ·exact .inr ⟨rfl,rfl⟩
   ·have:=R.s7 q hq
    obtain ⟨q1,q2⟩:=R.fine.sm.si q hq
    have:=zo3 R q1 q2 this
    rcases e with rfl|rfl
    ·exact this
    ·rw [←zfE] at this;exact this
  ·exact zo3 R r1 r2 h
 rcases g with g|g
 ·exact main (a,b) g h
 ·rw [←zfE]
  refine main (b,a) g fun ⟨s,hs,e⟩=>h ⟨s,hs,Or.symm e⟩
theorem zbj {a b:Int} (g:GE p a b) (h:¬onL p a b):∃c,ZV p a b c:=by
 obtain ⟨q,h1,h2,h3⟩:=zvX R g
 refine h3 ?_
 rw [←zz7 R g h]
 exact zpK R.lp fun s hs=>h2 s hs fun e=>h ⟨s,hs,e⟩
theorem Y9 {s t:Pt} (hs:s∈p.2.1) (ht:t∈p.2.1) (h:(t.1=s.1∧t.2=s.2)∨(t.1=s.2∧t.2=s.1)):t=s:=by
 apply Decidable.byContradiction
 intro hne
 exact znC (r:=fun a b:Pt=>nrm a≠nrm b) (fun h e=>h e.symm) R.lp.two t ht s hs hne (zeI h)
theorem Y1 {s:Pt} (hs:s∈p.2.1) {q:Pt} (fr:∀t∈p.2.1,¬((t.1=s.1∧t.2=s.2)∨(t.1=s.2∧t.2=s.1))→Q3 q (m6 p s.1 s.2) (U6 p t.1) (U6 p t.2)) (hne:crs (U6 p s.1) (U6 p s.2) q≠0):xor (Za p q) (Za p (m6 p s.1 s.2))=xor (decide (0<crs (U6 p s.1) (U6 p s.2) q)) (kap (U6 p s.1) (U6 p s.2)) :=
 zjj R.lp hs (zgD p s.1 s.2) (fun t ht hn=>fr t ht fun e=>hn (Y9 R hs ht e)) hne
theorem zcw {s:Pt} (hs:s∈p.2.1):(∃c,ZV p s.1 s.2 c)∨∃c,ZV p s.2 s.1 c:=by
 have g:=qV R hs
 obtain ⟨q,h1,h2,h3⟩:=zvX R g
 obtain ⟨q',k1,k2,k3⟩:=zvX R g.symm
 have e1:=Y1 R hs h2 (by omega)
 rw [qf] at k1
 have e2:=Y1 R hs (q:=q') (fun t ht hn=>by rw [←zfE];exact k2 t ht fun e=>hn (Or.symm e)) (by omega)
 rw [decide_eq_true h1] at e1
 rw [decide_eq_false (by omega:¬0<crs (U6 p s.1) (U6 p s.2) q')] at e2
 cases hq:Za p q with
 |true=>exact .inl (h3 hq)
 |false =>
  refine .inr (k3 ?_)
  rw [hq] at e1
  revert e1 e2
  generalize Za p (m6 p s.1 s.2)=x
  generalize kap (U6 p s.1) (U6 p s.2)=y
  cases Za p q'<;>cases x<;>cases y<;>decide
theorem zko {s:Pt} (hs:s∈p.2.1) {c c':Int} (h:ZV p s.1 s.2 c) (h':ZV p s.2 s.1 c'):False:=by
 have a1:=(zaS p s.1 s.2 c).three (U6 p s.1) (U6 p s.2)
 have a2:=(zaS p s.2 s.1 c').three (U6 p s.1) (U6 p s.2)
 rw [qk,qq] at a1
 rw [qk,qq] at a2
 have t1:=h.T.pos
 have t2:=h'.T.pos
 rw [qf] at t2
 have e1:=Y1 R hs (q:=c6 p s.1 s.2 c) (fun t ht hn=>zcs R h.T ht hn) (by omega)
 have e2:=Y1 R hs (q:=c6 p s.2 s.1 c') (fun t ht hn=>by rw [←zfE];exact zcs R h'.T ht fun e=>hn (Or.symm e)) (by omega)
 rw [h.mid,decide_eq_true (by omega)] at e1
 rw [h'.mid,decide_eq_false (by omega)] at e2
 revert e1 e2
 generalize Za p (m6 p s.1 s.2)=x
 generalize kap (U6 p s.1) (U6 p s.2)=y
 cases x<;>cases y<;>decide
theorem ZV.one {a b c c':Int} (h:ZV p a b c) (h':ZV p a b c'):c'=c:=by
 have N:=zhx R
 obtain ⟨ra,rb,rc⟩:=h.T.r
 obtain ⟨_,_,rc'⟩:=h'.T.r
 have p1:=h.T.pos
 have p2:=h'.T.pos
 have one:∀{c c':Int},ZV p a b c→ZV p a b c'→crs (U6 p c) (U6 p a) (U6 p c')≤0∧crs (U6 p b) (U6 p c) (U6 p c')≤0:=by
  intro c c' h h'
  have p1:=h.T.pos
  have p2:=h'.T.pos
  have s1:=sep N h'.ca.symm h.T
  have s2:=sep N h'.bc h.T
  unfold Sep at s1 s2
  have f1:crs (U6 p a) (U6 p c') (U6 p b)=-crs (U6 p a) (U6 p b) (U6 p c'):=qA _ _ _
  have f2:crs (U6 p a) (U6 p c') (U6 p c)=crs (U6 p c) (U6 p a) (U6 p c'):=qS (U6 p c) (U6 p a) (U6 p c')
  have f3:crs (U6 p b) (U6 p c') (U6 p a)=crs (U6 p a) (U6 p b) (U6 p c'):=qS (U6 p a) (U6 p b) (U6 p c')
  have f4:crs (U6 p b) (U6 p c') (U6 p c)=-crs (U6 p b) (U6 p c) (U6 p c'):=qA _ _ _
  have f5:crs (U6 p b) (U6 p c) (U6 p a)=crs (U6 p a) (U6 p b) (U6 p c):=qS (U6 p a) (U6 p b) (U6 p c)
  have f6:crs (U6 p c) (U6 p a) (U6 p b)=crs (U6 p a) (U6 p b) (U6 p c):=jf (U6 p a) (U6 p b) (U6 p c)
  omega
 obtain ⟨x1,x2⟩:=one h h'
 obtain ⟨y1,y2⟩:=one h' h
 have f2:crs (U6 p c') (U6 p a) (U6 p c)=-crs (U6 p c) (U6 p a) (U6 p c'):=by rw [zoE (U6 p c') (U6 p a) (U6 p c)];omega
 have f4:crs (U6 p b) (U6 p c') (U6 p c)=-crs (U6 p b) (U6 p c) (U6 p c'):=qA _ _ _
 have f5:=zdp (U6 p a) (U6 p b) (U6 p c) (U6 p c')
 have f6:=qf (U6 p a) (U6 p c) (U6 p c')
 exact N.inj c' c rc' rc (zbo (m:=U6 p a) (e:=U6 p b) (by omega) (by omega) p1)
end
end Go.Proofs.YtpkkcjmblocjdaaGreat.Pure
end
section
namespace Go.Proofs.YtpkkcjmblocjdaaGreat.Pure
open Go.RowKit Go.Proofs.YtpkkcjmblocjdaaGreat.AM PL
theorem zAm {x:Int}:sg x≥0↔0≤x:=by unfold sg;(repeat' split)<;>omega
theorem zqd {a b c:Pt} (fa:Fit a) (fb:Fit b) (fc:Fit c):ori a b c≥0↔0≤crs (sc 6 a) (sc 6 b) (sc 6 c):=by
 rw [ori,if_pos ⟨fa,fb,fc⟩,zAm,Y7]
 omega
theorem zzh {a b c:Pt} (fa:Fit a) (fb:Fit b) (fc:Fit c):ori a b c=sg (crs (sc 6 a) (sc 6 b) (sc 6 c)):=by
 rw [ori,if_pos ⟨fa,fb,fc⟩,Y7]
 unfold sg
 (repeat' split)<;>omega
section
variable {p:zy} (R:Rt p)
include R
theorem zr6 {t:Tr} (h1:inr t.1 p.1.length) (h2:inr t.2.1 p.1.length) (h3:inr t.2.2 p.1.length):zpm p.1 t=true↔∀k,inr k p.1.length→0≤crs (U6 p t.1) (U6 p t.2.1) (U6 p k)→0≤crs (U6 p t.2.1) (U6 p t.2.2) (U6 p k)→0≤crs (U6 p t.2.2) (U6 p t.1) (U6 p k)→k=t.1∨k=t.2.1∨k=t.2.2:=by
 have f1:=R.fine.sm.fit h1
 have f2:=R.fine.sm.fit h2
 have f3:=R.fine.sm.fit h3
 have ot:∀k:Int,ztD t k=true↔¬(k=t.1∨k=t.2.1∨k=t.2.2):=by
  intro k
  unfold ztD
  by_cases c1:k=t.1<;>by_cases c2:k=t.2.1<;>by_cases c3:k=t.2.2<;>simp [c1,c2,c3]
 have it:∀k:Int,inr k p.1.length→(inT p.1 t (pt p.1 k)=true↔0≤crs (U6 p t.1) (U6 p t.2.1) (U6 p k)∧0≤crs (U6 p t.2.1) (U6 p t.2.2) (U6 p k)∧0≤crs (U6 p t.2.2) (U6 p t.1) (U6 p k)):=by
  intro k hk
  have fk:=R.fine.sm.fit hk
  unfold inT
  rw [Bool.and_eq_true,Bool.and_eq_true,decide_eq_true_eq,decide_eq_true_eq,decide_eq_true_eq,zqd f1 f2 fk,zqd f2 f3 fk,zqd f3 f1 fk]
  exact Iff.rfl
 unfold zpm
 rw [Bool.not_eq_true',List.any_eq_false]
 constructor
 ·intro h k hk k1 k2 k3
  have:=h k.toNat (List.mem_range.2 (by have:=hk.1;have:=hk.2;omega))
  rw [Int.toNat_of_nonneg hk.1,Bool.and_eq_true,ot,it k hk] at this
  exact Decidable.byContradiction fun hn=>this ⟨hn,k1,k2,k3⟩
 ·intro h i hi
  have hk:inr (i:Int) p.1.length:=⟨by omega,by have:=List.mem_range.1 hi;omega⟩
  rw [Bool.and_eq_true,ot,it _ hk]
  rintro ⟨h1,h2,h3,h4⟩
  exact h1 (h _ hk h2 h3 h4)
omit R in
theorem GE.mem {p:zy} (R:Rt p) {a b:Int} (h:GE p a b) (hab:a<b):(a,b)∈edg p:=by
 rcases h with h|h
 ·exact h
 ·have:=((X9 R.fine).ok _ h).2
  dsimp only at this
  omega
theorem zv4 (a b c:Int):c6 p a c b=c6 p a b c:=by unfold c6;congr 2<;>omega
theorem zr3 {a b c:Int} (g1:GE p a b) (g2:GE p b c) (g3:GE p c a) (pos:0<crs (U6 p a) (U6 p b) (U6 p c)) (he:zpm p.1 (a,b,c)=true) (hm:Za p (c6 p a b c)=true):ZV p a b c:=by
 have N:=zhx R
 obtain ⟨r1,r2⟩:=(g1.ok R).1
 have r3:=(g2.ok R).1.2
 exact ⟨⟨⟨r1,r2,r3⟩,pos,(zr6 R (t:=(a,b,c)) r1 r2 r3).1 he,N.npc _ _ g1,N.npc _ _ g2,N.npc _ _ g3⟩,g1,g2,g3,hm⟩
theorem ZV.emp {a b c:Int} (h:ZV p a b c):zpm p.1 (a,b,c)=true:=(zr6 R (t:=(a,b,c)) h.T.r.1 h.T.r.2.1 h.T.r.2.2).2 h.T.emp
theorem zyu {a b c:Int} (r1:inr a p.1.length) (r2:inr b p.1.length) (r3:inr c p.1.length):K8 p.1 a b c=if crs (U6 p a) (U6 p b) (U6 p c)=0 then ((0,0,0),false) else if crs (U6 p a) (U6 p b) (U6 p c)<0 then (zc7 a c b,true) else (zc7 a b c,true):=by
 unfold K8
 rw [if_pos ⟨r1,r2,r3⟩,zzh (R.fine.sm.fit r1) (R.fine.sm.fit r2) (R.fine.sm.fit r3)]
 show _=if crs (sc 6 (pt p.1 a)) (sc 6 (pt p.1 b)) (sc 6 (pt p.1 c))=0 then _ else if crs (sc 6 (pt p.1 a)) (sc 6 (pt p.1 b)) (sc 6 (pt p.1 c))<0 then _ else _
 generalize crs (sc 6 (pt p.1 a)) (sc 6 (pt p.1 b)) (sc 6 (pt p.1 c))=x
 by_cases c1:x=0
 ·subst c1;rfl
 ·by_cases c2:x<0
  ·have e:sg x=-1:=by unfold sg;(repeat' split)<;>omega
   rw [e,if_neg c1,if_pos c2,if_neg (by decide),if_pos rfl]
  ·have e:sg x=1:=by unfold sg;(repeat' split)<;>omega
   rw [e,if_neg c1,if_neg c2,if_neg (by decide),if_neg (by decide)]
omit R in
theorem zkD {a b c:Int} (h1:a≤b) (h2:a≤c):zc7 a b c=(a,b,c):=if_pos ⟨h1,h2⟩
theorem zjT {s:Pt} {c:Int} (hs:s∈edg p) (hc:inr c p.1.length) (hsc:s.2<c) (t:Tr):zjh p (j3 p) s c=some t↔(t=(s.1,s.2,c)∨t=(s.1,c,s.2))∧ZV p t.1 t.2.1 t.2.2:=by
 obtain ⟨⟨r1,r2⟩,hlt⟩:=(X9 R.fine).ok s hs
 have t1:=zyu R r1 r2 hc
 have sw:crs (U6 p s.1) (U6 p c) (U6 p s.2)=-crs (U6 p s.1) (U6 p s.2) (U6 p c):=qA _ _ _
 have G1:GE p s.1 s.2:=.inl hs
 unfold zjh
 have M:=jK p
 constructor
 ·intro h
  split at h
  ·rename_i hh
   obtain ⟨e1,e2,e3,e4,e5⟩:=hh
   rw [M] at e1 e2
   have hm:=zug R r1 r2 hc e4
   have et:=Option.some.inj h
   have G2:GE p s.1 c:=.inl e1
   have G3:GE p s.2 c:=.inl e2
   rw [t1] at et e3 e5
   by_cases c0:crs (U6 p s.1) (U6 p s.2) (U6 p c)=0
   ·rw [if_pos c0] at e3;cases e3
   ·rw [if_neg c0] at e5 et
    by_cases c1:crs (U6 p s.1) (U6 p s.2) (U6 p c)<0
    ·rw [if_pos c1] at e5 et
     dsimp only at e5 et
     rw [zkD (by omega) (by omega)] at e5 et
     subst et
     exact ⟨.inr rfl,zr3 R G2 G3.symm G1.symm (show 0<crs (U6 p s.1) (U6 p c) (U6 p s.2) by omega) e5 (by rw [zv4 R];exact hm)⟩
    ·rw [if_neg c1] at e5 et
     dsimp only at e5 et
     rw [zkD (by omega) (by omega)] at e5 et
     subst et
     exact ⟨.inl rfl,zr3 R G1 G3 G2.symm (show 0<crs (U6 p s.1) (U6 p s.2) (U6 p c) by omega) e5 hm⟩
  ·cases h
 ·rintro ⟨e,g⟩
  have hp:=g.T.pos
  have em:=g.emp R
  rcases e with rfl|rfl
  ·dsimp only at g hp em ⊢
   have e4:=zrX R r1 r2 hc g.mid fun q hq=>zsi R g.T hq
   have et:K8 p.1 s.1 s.2 c=((s.1,s.2,c),true):=by rw [t1,if_neg (by omega),if_neg (by omega),zkD (by omega) (by omega)]
   rw [et,if_pos ⟨(M _).2 (g.ca.symm.mem R (by omega)),(M _).2 (g.bc.mem R hsc),rfl,e4,em⟩]
  ·dsimp only at g hp em ⊢
   have e4:=zrX R r1 r2 hc (by rw [←zv4 R];exact g.mid) fun q hq=>by rw [←zv4 R];exact zsi R g.T hq
   have et:K8 p.1 s.1 s.2 c=((s.1,c,s.2),true):=by rw [t1,if_neg (by omega),if_pos (by omega),zkD (by omega) (by omega)]
   rw [et,if_pos ⟨(M _).2 (g.ab.mem R (by omega)),(M _).2 (g.bc.symm.mem R hsc),rfl,e4,em⟩]
theorem zhr {s:Pt} (hs:s∈edg p) (t:Tr):t∈zl8 p (j3 p) s↔∃c,s.2<c∧(t=(s.1,s.2,c)∨t=(s.1,c,s.2))∧ZV p t.1 t.2.1 t.2.2:=by
 obtain ⟨⟨r1,r2⟩,hlt⟩:=(X9 R.fine).ok s hs
 unfold zl8 zom
 rw [List.mem_filterMap]
 constructor
 ·rintro ⟨j,hj,h⟩
  have hj:=List.mem_range.1 hj
  unfold cnt at hj
  obtain ⟨r3,r4⟩:=r2
  have hc:inr (s.2+1+(j:Int)) p.1.length:=⟨by omega,by omega⟩
  exact ⟨_,by omega,(zjT R hs hc (by omega) t).1 h⟩
 ·rintro ⟨c,h1,h2,h3⟩
  have hc:inr c p.1.length:=by
   have r:=h3.T.r
   rcases h2 with e|e
   ·rw [e] at r;exact r.2.2
   ·rw [e] at r;exact r.2.1
  obtain ⟨r3,r4⟩:=r2
  obtain ⟨r5,r6⟩:=hc
  refine ⟨(c-(s.2+1)).toNat,List.mem_range.2 (by unfold cnt;omega),?_⟩
  rw [show s.2+1+((c-(s.2+1)).toNat:Int)=c by omega]
  exact (zjT R hs ⟨r5,r6⟩ h1 t).2 ⟨h2,h3⟩
theorem zdk (t:Tr):t∈ji p↔(t.1<t.2.1∧t.1<t.2.2)∧ZV p t.1 t.2.1 t.2.2:=by
 unfold ji
 rw [(Ku _ _).mem_iff]
 unfold zn1
 rw [List.mem_flatMap]
 constructor
 ·rintro ⟨s,hs,h⟩
  have hs':=(jK p s).1 hs
  obtain ⟨c,h1,h2,h3⟩:=(zhr R hs' t).1 h
  have hlt:=((X9 R.fine).ok s hs').2
  refine ⟨?_,h3⟩
  rcases h2 with rfl|rfl<;>(dsimp only;omega)
 ·rintro ⟨⟨h1,h2⟩,g⟩
  have hne:t.2.1≠t.2.2:=(g.bc.ok R).2
  rcases Int.lt_or_gt_of_ne hne with h|h
  ·exact ⟨(t.1,t.2.1),(jK p _).2 (g.ab.mem R h1),(zhr R (g.ab.mem R h1) t).2 ⟨t.2.2,h,.inl rfl,g⟩⟩
  ·exact ⟨(t.1,t.2.2),(jK p _).2 (g.ca.symm.mem R h2),(zhr R (g.ca.symm.mem R h2) t).2 ⟨t.2.1,h,.inr rfl,g⟩⟩
theorem zxk:(zn1 p (j3 p)).Nodup:=by
 rw [List.nodup_iff_pairwise_ne]
 unfold zn1
 rw [List.pairwise_flatMap]
 constructor
 ·intro s hs
  have hs':=(jK p s).1 hs
  obtain ⟨⟨_,r3,r4⟩,hlt⟩:=(X9 R.fine).ok s hs'
  unfold zl8 zom
  rw [List.pairwise_filterMap]
  refine (List.nodup_iff_pairwise_ne.1 (List.nodup_range (n:=cnt p s))).imp_of_mem ?_
  intro i j hi hj hij t ht u hu e
  have hi:=List.mem_range.1 hi
  have hj:=List.mem_range.1 hj
  unfold cnt at hi hj
  have a1:=((zjT R hs' (c:=s.2+1+(i:Int)) ⟨by omega,by omega⟩ (by omega) t).1 ht).1
  have a2:=((zjT R hs' (c:=s.2+1+(j:Int)) ⟨by omega,by omega⟩ (by omega) u).1 hu).1
  rw [e] at a1
  rcases a1 with a1|a1<;>rcases a2 with a2|a2<;>(rw [a1] at a2;have:=congrArg (fun t:Tr=>t.2.1) a2;have:=congrArg (fun t:Tr=>t.2.2) a2;dsimp only at *;omega)
 ·refine (zjr.nodup (zaZ R.fine)).imp_of_mem ?_
  intro s s' hs hs' hne t ht u hu e
  have m1:=(jK p s).1 hs
  have m2:=(jK p s').1 hs'
  obtain ⟨c,h1,h2,_⟩:=(zhr R m1 t).1 ht
  obtain ⟨d,k1,k2,_⟩:=(zhr R m2 u).1 hu
  rw [e] at h2
  refine hne ?_
  rcases h2 with h2|h2<;>rcases k2 with k2|k2<;>(rw [h2] at k2;have:=congrArg (fun t:Tr=>t.1) k2;have:=congrArg (fun t:Tr=>t.2.1) k2;have:=congrArg (fun t:Tr=>t.2.2) k2;dsimp only at *;exact Prod.ext (by omega) (by omega))
theorem zse:(ji p).Pairwise ltT:=zt0.srt zzx (zxk R)
end
end Go.Proofs.YtpkkcjmblocjdaaGreat.Pure
end
section
namespace Go.Proofs.YtpkkcjmblocjdaaGreat.Pure
open Go.RowKit Go.Proofs.YtpkkcjmblocjdaaGreat.AM PL
theorem ZV.ne {p:zy} (R:Rt p) {a b c:Int} (h:ZV p a b c):a≠b∧b≠c∧c≠a:=⟨(h.ab.ok R).2,(h.bc.ok R).2,(h.ca.ok R).2⟩
section
variable {p:zy} (R:Rt p)
include R
theorem ziG {t:Tr} (ht:t∈ji p) {s:Pt} (hs:s∈qT t):∃c,ZV p s.1 s.2 c∧t=zc7 s.1 s.2 c:=by
 obtain ⟨⟨h1,h2⟩,g⟩:=(zdk R t).1 ht
 unfold qT at hs
 rcases List.mem_cons.1 hs with rfl|hs
 ·exact ⟨t.2.2,g,by rw [zkD (by dsimp only;omega) (by dsimp only;omega)]⟩
 rcases List.mem_cons.1 hs with rfl|hs
 ·refine ⟨t.1,g.rot,?_⟩
  unfold zc7
  dsimp only
  rw [if_neg (by omega),if_neg (by omega)]
 ·rw [List.mem_singleton] at hs
  subst hs
  refine ⟨t.2.1,g.rot.rot,?_⟩
  unfold zc7
  dsimp only
  rw [if_neg (by omega),if_pos (by omega)]
theorem zh2 {a b c:Int} (g:ZV p a b c):zc7 a b c∈ji p∧(a,b)∈qT (zc7 a b c):=by
 obtain ⟨n1,n2,n3⟩:=g.ne R
 rw [zdk R]
 unfold zc7 qT
 split
 ·exact ⟨⟨by dsimp only;omega,g⟩,by simp⟩
 ·split
  ·exact ⟨⟨by dsimp only;omega,g.rot⟩,by simp⟩
  ·exact ⟨⟨by dsimp only;omega,g.rot.rot⟩,by simp⟩
theorem zvn (s:Pt):(∃t∈ji p,s∈qT t)↔∃c,ZV p s.1 s.2 c:=by
 constructor
 ·rintro ⟨t,ht,hs⟩
  obtain ⟨c,h,_⟩:=ziG R ht hs
  exact ⟨c,h⟩
 ·rintro ⟨c,g⟩
  exact ⟨_,(zh2 R g).1,(zh2 R g).2⟩
theorem zoy {t u:Tr} (ht:t∈ji p) (hu:u∈ji p) {s:Pt} (h1:s∈qT t) (h2:s∈qT u):t=u:=by
 obtain ⟨c,g,e⟩:=ziG R ht h1
 obtain ⟨d,g',e'⟩:=ziG R hu h2
 rw [e,e',g.one R g']
theorem zpk {a b:Int} (g:GE p a b):(∃c,ZV p a b c)∨∃c,ZV p b a c:=by
 by_cases h:onL p a b
 ·obtain ⟨s,hs,⟨e1,e2⟩|⟨e1,e2⟩⟩:=h
  ·have:=zcw R hs
   rw [e1,e2] at this
   exact this
  ·have:=zcw R hs
   rw [e1,e2] at this
   exact this.symm
 ·exact .inl (zbj R g h)
theorem zz3 (s:Pt):s∈edg p↔∃e,(∃c,ZV p e.1 e.2 c)∧up e=s:=by
 have ue:∀{a b:Int},GE p a b→up (a,b)∈edg p:=by
  intro a b g
  rcases zcm (a,b) with e|e
  ·have:=zwa (s:=(a,b)) (g.ok R).2
   rw [e] at this ⊢
   exact g.mem R this
  ·have:=zwa (s:=(a,b)) (g.ok R).2
   rw [e] at this ⊢
   exact g.symm.mem R this
 constructor
 ·intro h
  have hlt:=((X9 R.fine).ok s h).2
  have e1:up s=s:=by
   unfold up mnI mxI
   exact Prod.ext (by dsimp only;split<;>omega) (by dsimp only;split<;>omega)
  rcases zpk R (a:=s.1) (b:=s.2) (.inl h) with g|g
  ·exact ⟨s,g,e1⟩
  ·refine ⟨rv s,g,?_⟩
   have e2:up (rv s)=up s:=zeI (.inr ⟨rfl,rfl⟩)
   exact e2.trans e1
 ·rintro ⟨e,⟨c,g⟩,rfl⟩
  exact ue g.ab
end
end Go.Proofs.YtpkkcjmblocjdaaGreat.Pure
end
section
namespace Go.Proofs.YtpkkcjmblocjdaaGreat.Pure
open Go.RowKit Go.Proofs.YtpkkcjmblocjdaaGreat.AM PL
def nx (c:List Int) (i:Nat):Int:=rdD 0 c (((i+1) % c.length:Nat):Int)
def ed (c:List Int) (i:Nat):Pt:=(rdD 0 c (i:Int),nx c i)
def eds (c:List Int):List Pt:=(List.range c.length).map (ed c)
def Zw (f:List (List Int)):List Pt:=f.flatMap eds
def fc (f:List (List Int)) (i:Nat):List Int:=rdD [] f (i:Int)
theorem zkn {f:List (List Int)} {i:Nat} (h:i<f.length):fc f i=f[i]:=zY [] f i h
theorem zjV (c:List Int):(eds c).length=c.length:=by simp [eds]
theorem zw8 (c:List Int) (i:Nat) (h:i<c.length):(eds c)[i]'(by rw [zjV];exact h)=ed c i:=by simp [eds]
def zqJ (n:Int) (c:List Int) (j:Nat):Bool:=decide (rdD 0 c (j:Int)<0∨n≤rdD 0 c (j:Int)∨rdD 0 c (j:Int)∈c.take j)
def zp9 (n:Int) (c:List Int):Bool:=(List.range c.length).any (zqJ n c)||decide (c.length<3)
def zn7 (n:Int) (f:List (List Int)):Int:=if n<0∨1048576<n then 2 else if (List.range f.length).any (fun i=>zp9 n (fc f i))=true then 2 else if (Zw f).Nodup then 0 else 80
theorem zAU {c:List Int} {i:Nat} (h:i<c.length):nx c i=if i+1<c.length then rdD 0 c ((i+1:Nat):Int) else rdD 0 c 0:=by
 unfold nx
 by_cases e:i+1<c.length
 ·rw [if_pos e,Nat.mod_eq_of_lt e]
 ·rw [if_neg e,show i+1=c.length by omega,Nat.mod_self]
  rfl
theorem zkj (m:Nat) (f:List (List Int)) (hl:f.length≤900) (hc:∀c∈f,c.length≤900) (ht:(Zw f).length≤900):qJ (m+1000) f=some (Zw f):=by
 unfold qJ
 have hfc:∀i,i<f.length→(fc f i).length≤900:=fun i hi=>by rw [zkn hi];exact hc _ (List.getElem_mem _)
 have hpre:∀i,((f.take i).flatMap eds).length≤(Zw f).length:=fun i=>by
  have:Zw f=(f.take i).flatMap eds++(f.drop i).flatMap eds:=by rw [←List.flatMap_append,List.take_append_drop];rfl
  rw [this,List.length_append]
  omega
 refine (zG (fun i=>(f,(f.take i).flatMap eds,(i:Int))) f.length (fun _=>some (Zw f)) ?_ ?_ (m+1000) 0 (Nat.zero_le _) (by omega))
 ·intro next
  dsimp only
  rw [zg (by omega),List.take_length]
  rfl
 ·intro i hi next hn
  dsimp only
  have hcl:=hfc i hi
  rw [zk (by omega)]
  refine (zG (fun j=>(f,(f.take i).flatMap eds++(eds (fc f i)).take j,(i:Int),(j:Int))) (fc f i).length (fun _=>some (Zw f)) ?_ ?_ (m+1000) 0 (Nat.zero_le _) (by omega)) |> fun h=>(by simpa using h)
  ·intro next'
   dsimp only
   rw [zP (zA ⟨by omega,by omega⟩),show rdD [] f (i:Int)=fc f i from rfl,zg (by omega),zl (by omega) (by omega),List.take_of_length_le (l:=eds (fc f i)) (by rw [zjV];exact Nat.le_refl _)]
   rw [←hn,zfx eds f i hi,←zkn hi]
   rfl
  ·intro j hj next' hn'
   dsimp only
   rw [zP (zA ⟨by omega,by omega⟩),show rdD [] f (i:Int)=fc f i from rfl,zk (by omega),zP (zA ⟨by omega,by omega⟩),zP (zA ⟨by omega,by omega⟩),zP (zA ⟨by omega,by omega⟩)]
   simp only [zx,show rdD [] f (i:Int)=fc f i from rfl]
   have hje:j<(eds (fc f i)).length:=by rw [zjV];exact hj
   have hlen:((f.take i).flatMap eds++(eds (fc f i)).take j).length+1<4294967296:=by
    have:=hpre (i+1)
    rw [zfx eds f i hi,←zkn hi,List.length_append,zjV] at this
    rw [List.length_append,List.length_take]
    omega
   rw [zl (by omega) (by omega)]
   rw [Z7 _ j hje,zw8 _ _ hj,←List.append_assoc] at hn'
   have e2:ed (fc f i) j=(rdD 0 (fc f i) (j:Int),nx (fc f i) j):=rfl
   rw [e2,zAU hj] at hn'
   by_cases h1:j+1<(fc f i).length
   ·rw [if_pos h1] at hn'
    rw [zk (by omega),zP (zA ⟨by omega,by omega⟩),zP (zA ⟨by omega,by omega⟩),zP (zA ⟨by omega,by omega⟩),zP (zA ⟨by omega,by omega⟩),zP (jG hlen)]
    exact hn'
   ·rw [if_neg h1] at hn'
    rw [zg (by omega),zP (zA ⟨by omega,by omega⟩),zP (zA ⟨by omega,by omega⟩),zP (jG hlen)]
    exact hn'
theorem zvk {c:List Int} {k:Nat} (hk:k≤c.length) (x:Int):(List.range k).any (fun j=>decide (rdD 0 c (j:Int)=x))=decide (x∈c.take k):=by
 rw [Bool.eq_iff_iff,List.any_eq_true,decide_eq_true_eq]
 constructor
 ·rintro ⟨j,hj,h⟩
  rw [List.mem_range] at hj
  rw [decide_eq_true_eq,zY _ _ _ (by omega)] at h
  rw [←h]
  exact List.mem_take_iff_getElem.2 ⟨j,by omega,rfl⟩
 ·intro h
  obtain ⟨j,hj,h⟩:=List.mem_take_iff_getElem.1 h
  refine ⟨j,List.mem_range.2 (by omega),?_⟩
  rw [decide_eq_true_eq,zY _ _ _ (by omega)]
  exact h
theorem zsz (l:List Pt):(List.range l.length).any (fun i=>(List.range i).any fun k=>decide (rdD (0,0) l (i:Int)=rdD (0,0) l (k:Int)))=!(decide l.Nodup):=by
 rw [Bool.eq_iff_iff,List.any_eq_true,Bool.not_eq_true',decide_eq_false_iff_not]
 constructor
 ·rintro ⟨i,hi,h⟩ hn
  rw [List.mem_range] at hi
  rw [List.any_eq_true] at h
  obtain ⟨k,hk,h⟩:=h
  rw [List.mem_range] at hk
  rw [decide_eq_true_eq,zY _ _ _ (by omega),zY _ _ _ (by omega)] at h
  exact List.pairwise_iff_getElem.1 hn k i (by omega) (by omega) hk h.symm
 ·intro hn
  apply Decidable.byContradiction
  intro hno
  apply hn
  refine List.pairwise_iff_getElem.2 fun k i hk hi hlt h=>hno ⟨i,List.mem_range.2 hi,?_⟩
  rw [List.any_eq_true]
  exact ⟨k,List.mem_range.2 hlt,by rw [decide_eq_true_eq,zY _ _ _ (by omega),zY _ _ _ (by omega)];exact h.symm⟩
theorem zkx (m:Nat) (n:Int) (f:List (List Int)) (hl:f.length≤900) (hc:∀c∈f,c.length≤900) (ht:(Zw f).length≤900):ja (m+1000) n f=some (zn7 n f):=by
 unfold ja JD
 simp only [zx]
 have hfc:∀i,i<f.length→(fc f i).length≤900:=fun i hi=>by rw [zkn hi];exact hc _ (List.getElem_mem _)
 by_cases c0:n<0∨1048576<n
 ·have e:zn7 n f=2:=by rw [zn7,if_pos c0]
  rw [e]
  rcases c0 with h|h
  ·rw [zk h];rfl
  ·rw [zg (by omega),decide_eq_true (by omega)];rfl
 have e0:zn7 n f=if (List.range f.length).any (fun i=>zp9 n (fc f i))=true then 2 else if (Zw f).Nodup then 0 else 80:=by rw [zn7,if_neg c0]
 rw [zg (by omega),decide_eq_false (by omega),cF]
 refine (zcg (fun i=>(n,f,(i:Int))) f.length (fun i=>zp9 n (fc f i)) (some 2) (some (if (Zw f).Nodup then 0 else 80)) ?_ ?_ (m+1000) (by omega)).trans ?_
 ·intro next
  dsimp only
  rw [zg (by omega),zkj m f hl hc ht,zr]
  refine (zcg (fun i=>(Zw f,(i:Int))) (Zw f).length (fun i=>(List.range i).any fun k=>decide (rdD (0,0) (Zw f) (i:Int)=rdD (0,0) (Zw f) (k:Int))) (some 80) (some 0) ?_ ?_ (m+1000) (by omega)).trans ?_
  ·intro next
   dsimp only
   rw [zg (by omega)]
  ·intro i hi next
   dsimp only
   rw [zk (by omega)]
   refine (zcg (fun k=>(Zw f,(i:Int),(k:Int))) i (fun k=>decide (rdD (0,0) (Zw f) (i:Int)=rdD (0,0) (Zw f) (k:Int))) (some 80) (next (Zw f,((i+1:Nat):Int))) ?_ ?_ (m+1000) (by omega)).trans ?_
   ·intro next'
    dsimp only
    rw [zg (by omega),zl (by omega) (by omega)]
    rfl
   ·intro k hk next'
    dsimp only
    rw [zk (by omega),zP (zA ⟨by omega,by omega⟩),zP (zA ⟨by omega,by omega⟩),eqP,zl (by omega) (by omega)]
    rfl
   ·rfl
  ·rw [zsz]
   by_cases h:(Zw f).Nodup
   ·rw [decide_eq_true h,if_pos h];rfl
   ·rw [decide_eq_false h,if_neg h];rfl
 ·intro i hi next
  dsimp only
  rw [zk (by omega),zP (zA ⟨by omega,by omega⟩),show rdD [] f (i:Int)=fc f i from rfl]
  have hcl:=hfc i hi
  by_cases h3:(fc f i).length<3
  ·rw [zk (by omega)]
   unfold zp9
   rw [decide_eq_true h3,Bool.or_true,cT]
  rw [zg (by omega)]
  unfold zp9
  rw [decide_eq_false h3,Bool.or_false]
  refine (zcg (fun j=>(n,f,(i:Int),(j:Int))) (fc f i).length (zqJ n (fc f i)) (some 2) (next (n,f,((i+1:Nat):Int))) ?_ ?_ (m+1000) (by omega)).trans rfl
  ·intro next
   dsimp only
   rw [zP (zA ⟨by omega,by omega⟩),show rdD [] f (i:Int)=fc f i from rfl,zg (by omega),zl (by omega) (by omega)]
   rfl
  ·intro j hj next
   dsimp only
   rw [zP (zA ⟨by omega,by omega⟩),show rdD [] f (i:Int)=fc f i from rfl,zk (by omega),zP (zA ⟨by omega,by omega⟩),zP (zA ⟨by omega,by omega⟩)]
   unfold zqJ
   by_cases h1:rdD 0 (fc f i) (j:Int)<0
   ·rw [zk h1,cT,zk (.inl h1)]
   ·rw [zg h1,zP (zA ⟨by omega,by omega⟩),zP (zA ⟨by omega,by omega⟩)]
    by_cases h2:rdD 0 (fc f i) (j:Int)≥n
    ·rw [decide_eq_true h2,cT,zk (.inr (.inl h2))]
    ·rw [decide_eq_false h2,cF]
     refine (zcg (fun k=>(n,f,(i:Int),(j:Int),(k:Int))) j (fun k=>decide (rdD 0 (fc f i) (k:Int)=rdD 0 (fc f i) (j:Int))) (some 2) (next (n,f,(i:Int),((j+1:Nat):Int))) ?_ ?_ (m+1000) (by omega)).trans ?_
     ·intro next'
      dsimp only
      rw [zg (by omega),zl (by omega) (by omega)]
      rfl
     ·intro k hk next'
      dsimp only
      rw [zk (by omega),zP (zA ⟨by omega,by omega⟩),show rdD [] f (i:Int)=fc f i from rfl,zP (zA ⟨by omega,by omega⟩),zP (zA ⟨by omega,by omega⟩),zP (zA ⟨by omega,by omega⟩),zl (by omega) (by omega)]
      rfl
     ·rw [zvk (by omega)]
      by_cases h4:rdD 0 (fc f i) (j:Int)∈(fc f i).take j
      ·rw [zk h4,zk (.inr (.inr h4))]
      ·rw [zg h4,zg (by rintro (h|h|h)<;>contradiction)]
 ·rw [e0]
  cases hb:(List.range f.length).any (fun i=>zp9 n (fc f i)) with
  |true=>rfl
  |false =>
   simp only [Bool.false_eq_true,if_false,cF]
theorem zsQ {a b c:Pt} (h:ltS a b) (h':ltS b c):ltS a c:=by unfold ltS at *;omega
theorem zxw {a b:Pt} (h:¬ltS a b) (h':¬ltS b a):a=b:=by unfold ltS at *;exact Prod.ext (by omega) (by omega)
theorem zAF {s:Pt} (h:s.1<s.2):up s=s:=by unfold up mnI mxI;rw [if_neg (by omega),if_pos h]
theorem zAY {s:Pt} (h:s.2<s.1):up s=rv s:=by unfold up mnI mxI rv;rw [if_pos h,if_neg (by omega)]
def Srt (l:List Pt):Prop:=l.Pairwise ltS
def zfj (s:Pt):List Pt→List Pt
 |[]=>[s]
 |x::r=>if ltS x s then x::zfj s r else if x=s then x::r else s::x::r
theorem zkZ (s:Pt):∀l,(zfj s l).length≤l.length+1
 |[]=>by simp [zfj]
 |x::r=>by
  have:=zkZ s r
  unfold zfj
  (repeat' split)<;>simp only [List.length_cons]<;>omega
theorem zlq (s y:Pt):∀l,y∈zfj s l↔y=s∨y∈l
 |[]=>by simp [zfj]
 |x::r=>by
  have ih:=zlq s y r
  unfold zfj
  split
  ·simp only [List.mem_cons,ih]
   constructor
   ·rintro (h|h|h)
    ·exact .inr (.inl h)
    ·exact .inl h
    ·exact .inr (.inr h)
   ·rintro (h|h|h)
    ·exact .inr (.inl h)
    ·exact .inl h
    ·exact .inr (.inr h)
  ·split
   ·rename_i h2
    subst h2
    simp
   ·simp
theorem zpL (s:Pt):∀{l},Srt l→Srt (zfj s l)
 |[],_=>by simp [zfj,Srt]
 |x::r,h=>by
  have h':=List.pairwise_cons.1 h
  unfold zfj
  split
  ·rename_i h1
   refine List.pairwise_cons.2 ⟨fun y hy=>?_,zpL s h'.2⟩
   rcases (zlq s y r).1 hy with rfl|hy
   ·exact h1
   ·exact h'.1 y hy
  ·rename_i h1
   split
   ·exact h
   ·rename_i h2
    have h3:ltS s x:=by
     apply Decidable.byContradiction
     intro h3
     exact h2 (zxw h1 h3)
    refine List.pairwise_cons.2 ⟨fun y hy=>?_,h⟩
    rcases List.mem_cons.1 hy with rfl|hy
    ·exact h3
    ·exact zsQ h3 (h'.1 y hy)
def zeo (l:List Pt):List Pt:=l.foldl (fun out e=>zfj (up e) out) []
theorem ztd (l:List Pt) (e:Pt):zeo (l++[e])=zfj (up e) (zeo l):=by simp [zeo,List.foldl_append]
theorem zmB (l:List Pt) (i:Nat) (h:i<l.length):zeo (l.take (i+1))=zfj (up l[i]) (zeo (l.take i)):=by rw [Z7 l i h,ztd]
theorem zgK (l:List Pt):∀i,i≤l.length→Srt (zeo (l.take i))∧(zeo (l.take i)).length≤i∧∀s,s∈zeo (l.take i)↔∃e∈l.take i,up e=s
 |0,_=>by simp [zeo,Srt]
 |i+1,h=>by
  obtain ⟨h1,h2,h3⟩:=zgK l i (by omega)
  have hi:i<l.length:=by omega
  rw [zmB l i hi]
  refine ⟨zpL _ h1,by have:=zkZ (up l[i]) (zeo (l.take i));omega,fun s=>?_⟩
  rw [zlq,h3,Z7 l i hi]
  simp only [List.mem_append,List.mem_singleton]
  constructor
  ·rintro (rfl|⟨e,he,rfl⟩)
   ·exact ⟨_,.inr rfl,rfl⟩
   ·exact ⟨e,.inl he,rfl⟩
  ·rintro ⟨e,he|rfl,rfl⟩
   ·exact .inr ⟨e,he,rfl⟩
   ·exact .inl rfl
theorem zwW (k:Nat) (a b:Pt):jP k a b=some (decide (ltS a b)):=by
 unfold jP ltS
 simp only [zx]
 by_cases h1:a.1<b.1
 ·rw [zk h1];simp [h1]
 ·rw [zg h1]
  by_cases h2:a.1=b.1
  ·rw [zk h2];simp [h2]
  ·rw [zg h2];simp [h1,h2]
theorem zqf (m:Nat) (f:List (List Int)) (hl:f.length≤900) (hc:∀c∈f,c.length≤900) (ht:(Zw f).length≤900) (hch:zn7 1048576 f=0):Zh (m+1000) f=some (zeo (Zw f)):=by
 unfold Zh JR
 simp only [zx]
 rw [zkx m _ f hl hc ht,zr,zkj m f hl hc ht,zr]
 obtain ⟨A,hA⟩:∃A,zeo (Zw f)=A:=⟨_,rfl⟩
 rw [hA]
 rw [hch]
 refine zG (fun i=>(zeo ((Zw f).take i),0,Zw f,(i:Int))) (Zw f).length (fun _=>some A) ?_ ?_ (m+1000) 0 (Nat.zero_le _) (by omega)
 ·intro next
  dsimp only
  rw [zg (by omega),cF,List.take_length,hA]
 ·intro i hi next hn
  dsimp only
  rw [zk (by omega),decide_eq_true rfl,cT,zP (zA ⟨by omega,by omega⟩),zY _ _ _ hi]
  rw [zmB _ _ hi] at hn
  have hlen:=(zgK (Zw f) i (by omega)).2.1
  have hlen2:=zkZ (up (Zw f)[i]) (zeo ((Zw f).take i))
  generalize zeo ((Zw f).take i)=out at hn hlen hlen2 ⊢
  generalize Zw f=l at *
  refine (zt6 (C:=(out,0,l,(i:Int),up l[i],[],0)) (fun h=>by rw [zAY h];rfl) (fun h=>by
   by_cases h':l[i].1<l[i].2
   ·rw [zAF h']
   ·have:l[i].1=l[i].2:=by omega
    rw [show up l[i]=(l[i].1,l[i].2) from by unfold up mnI mxI;rw [if_neg (by omega),if_neg (by omega),this]])).trans ?_
  generalize hs:up l[i]=s at hn hlen2 ⊢
  refine Ql (fun r st v=>∃k,k≤out.length∧r=out.length-k∧st=(out,0,l,(i:Int),s,out.take k,(k:Int))∧zfj s out=out.take k++zfj s (out.drop k)∧v=some A) ?_ (m+1000) out.length _ _ ⟨0,Nat.zero_le _,rfl,rfl,rfl,rfl⟩ (by omega)
  rintro r st v ⟨k,hk,rfl,rfl,hins,rfl⟩ next' hn'
  dsimp only
  simp only [Ye]
  have hw:w64 ((i:Int)+1)=((i+1:Nat):Int):=zl (by omega) (by omega)
  by_cases e:k=out.length
  ·subst e
   rw [zg (by omega),cF,zg (by omega),cF,zP (jG (by rw [List.length_take];omega)),zP (decide_eq_true (by omega)),zP (decide_eq_true (by omega)),zP (jG (by unfold dpL;simp;omega))]
   rw [hw,←hn,hins]
   congr 2
   simp [dpL,zfj]
  ·have hk':k<out.length:=by omega
   have hd:out.drop k=out[k]::out.drop (k+1):=List.drop_eq_getElem_cons hk'
   rw [hd,zfj] at hins
   rw [zk (by omega),zP (zA ⟨by omega,by omega⟩),zwW,zr,zY _ _ _ hk']
   by_cases h1:ltS out[k] s
   ·rw [if_pos h1] at hins
    rw [zk h1,zP (zA ⟨by omega,by omega⟩),zP (jG (by rw [List.length_take];omega)),zl (by omega) (by omega)]
    refine hn' (out.length-(k+1)) _ _ (by omega) ⟨k+1,by omega,rfl,?_,?_,rfl⟩
    ·rw [Z7 _ _ hk']
     rfl
    ·rw [hins,Z7 _ _ hk',List.append_assoc]
     rfl
   ·rw [if_neg h1] at hins
    rw [zg h1,zk (by omega),zP (zA ⟨by omega,by omega⟩),eqP]
    by_cases h2:out[k]=s
    ·rw [if_pos h2,←hd,List.take_append_drop] at hins
     rw [zk h2,hw,←hn,hins]
    ·rw [if_neg h2] at hins
     rw [zg h2,zP (jG (by rw [List.length_take];omega)),zP (decide_eq_true (by omega)),zP (decide_eq_true (by omega)),zP (jG (by unfold dpL;simp;omega))]
     rw [hw,←hn,hins,←hd]
     congr 2
     simp [dpL]
end Go.Proofs.YtpkkcjmblocjdaaGreat.Pure
end
section
namespace Go.Proofs.YtpkkcjmblocjdaaGreat.Pure
open Go.RowKit Go.Proofs.YtpkkcjmblocjdaaGreat.AM PL
theorem zpQ {α:Type} [DecidableEq α]:∀{l r:List α},l.Nodup→(∀x∈l,x∈r)→l.length≤r.length
 |[],_,_,_=>Nat.zero_le _
 |a::l,r,h,hs=>by
  obtain ⟨h1,h2⟩:=List.nodup_cons.1 h
  have ha:=hs a List.mem_cons_self
  have:=zpQ (l:=l) (r:=r.erase a) h2 fun x hx=>(List.mem_erase_of_ne (fun e=>h1 (by rw [←e];exact hx))).2 (hs x (List.mem_cons_of_mem _ hx))
  rw [List.length_erase_of_mem ha] at this
  have:=List.length_pos_of_mem ha
  rw [List.length_cons]
  omega
theorem zx0 (t:Tr):eds (zgq t)=qT t:=by
 unfold eds
 rw [show (zgq t).length=3 from rfl,show List.range 3=[0,1,2] from rfl]
 simp [ed,nx,zgq,rdD,qT]
theorem zhC (T:List Tr):Zw (T.map zgq)=T.flatMap qT:=by
 unfold Zw
 rw [List.flatMap_map,show (fun a=>eds (zgq a))=qT from funext zx0]
def zzr (n:Nat):List Pt:=(List.range n).flatMap fun (i:Nat)=>(List.range n).map fun (j:Nat)=>((i:Int),(j:Int))
theorem zui {n:Nat} {s:Pt} (h:oks n s):s∈zzr n:=by
 obtain ⟨⟨h1,h2⟩,h3,h4⟩:=h
 unfold zzr
 rw [List.mem_flatMap]
 refine ⟨s.1.toNat,List.mem_range.2 (by omega),List.mem_map.2 ⟨s.2.toNat,List.mem_range.2 (by omega),?_⟩⟩
 rw [Int.toNat_of_nonneg h1,Int.toNat_of_nonneg h3]
theorem zuH (n:Nat):(zzr n).length≤n*n:=by
 have:=XK (fun i:Nat=>(List.range n).map fun j:Nat=>((i:Int),(j:Int))) n (List.range n) (fun x _=>by simp)
 rw [List.length_range] at this
 exact this
theorem zgM (T:List Tr):(T.flatMap qT).length=3*T.length:=by
 induction T with
 |nil=>rfl
 |cons t T ih =>
  rw [List.flatMap_cons,List.length_append,ih,List.length_cons]
  show 3+_=_
  omega
section
variable {p:zy} (R:Rt p)
include R
theorem zcz (s:Pt):s∈(ji p).flatMap qT↔∃c,ZV p s.1 s.2 c:=by
 rw [List.mem_flatMap,←zvn R]
theorem zj0:((ji p).flatMap qT).Nodup:=by
 rw [List.nodup_iff_pairwise_ne,List.pairwise_flatMap]
 constructor
 ·intro t ht
  obtain ⟨_,g⟩:=(zdk R t).1 ht
  obtain ⟨n1,n2,n3⟩:=g.ne R
  unfold qT
  refine List.Pairwise.cons (fun s hs=>?_) (List.Pairwise.cons (fun s hs=>?_) (List.Pairwise.cons (fun s hs=>?_) .nil))
  ·rcases List.mem_cons.1 hs with rfl|hs
   ·exact fun e=>n1 (congrArg Prod.fst e)
   ·rw [List.mem_singleton] at hs
    subst hs
    exact fun e=>n3 (congrArg Prod.fst e).symm
  ·rw [List.mem_singleton] at hs
   subst hs
   exact fun e=>n2 (congrArg Prod.fst e)
  ·cases hs
 ·refine (zt0.nodup (zse R)).imp_of_mem ?_
  intro t u ht hu hne s hs s' hs' e
  subst e
  exact hne (zoy R ht hu hs hs')
theorem zpW:3*(ji p).length≤p.1.length*p.1.length:=by
 rw [←zgM]
 refine Nat.le_trans (zpQ (zj0 R) fun s hs=>?_) (zuH _)
 obtain ⟨c,g⟩:=(zcz R s).1 hs
 exact zui ⟨g.T.r.1,g.T.r.2.1⟩
theorem zvT (hn:p.1.length≤900):zn7 1048576 ((ji p).map zgq)=0:=by
 unfold zn7
 rw [if_neg (by omega),if_neg,zhC,if_pos (zj0 R)]
 rw [List.any_eq_true]
 rintro ⟨i,hi,h⟩
 have hi:=List.mem_range.1 hi
 rw [zkn hi,List.getElem_map] at h
 rw [List.length_map] at hi
 obtain ⟨_,g⟩:=(zdk R _).1 (List.getElem_mem hi)
 obtain ⟨⟨a1,a2⟩,⟨b1,b2⟩,c1,c2⟩:=g.T.r
 obtain ⟨n1,n2,n3⟩:=g.ne R
 revert h
 generalize (ji p)[i]=t at *
 have h0:zqJ 1048576 (zgq t) 0=false:=by
  refine decide_eq_false ?_
  show ¬(t.1<0∨1048576≤t.1∨t.1∈[])
  rintro (h|h|h)
  ·omega
  ·omega
  ·cases h
 have h1:zqJ 1048576 (zgq t) 1=false:=by
  refine decide_eq_false ?_
  show ¬(t.2.1<0∨1048576≤t.2.1∨t.2.1∈[t.1])
  rintro (h|h|h)
  ·omega
  ·omega
  ·exact n1 (List.mem_singleton.1 h).symm
 have h2:zqJ 1048576 (zgq t) 2=false:=by
  refine decide_eq_false ?_
  show ¬(t.2.2<0∨1048576≤t.2.2∨t.2.2∈[t.1,t.2.1])
  rintro (h|h|h)
  ·omega
  ·omega
  ·rcases List.mem_cons.1 h with h|h
   ·exact n3 h
   ·exact n2 (List.mem_singleton.1 h).symm
 unfold zp9
 show ((List.range 3).any (zqJ 1048576 (zgq t))||decide (3<3))=true→False
 rw [zy7,h0,h1,h2]
 intro h
 cases h
theorem zsN:zeo (Zw ((ji p).map zgq))=j3 p:=by
 have h:=zgK (Zw ((ji p).map zgq)) _ (Nat.le_refl _)
 rw [List.take_length] at h
 refine zjr.ext h.1 (zaZ R.fine) fun s=>?_
 rw [h.2.2,jK,zz3 R,zhC]
 refine exists_congr fun e=>?_
 rw [zcz R]
end
end Go.Proofs.YtpkkcjmblocjdaaGreat.Pure
end
