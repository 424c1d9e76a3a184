/- All loops, by the program. -/
import Derived.Test.YtpkkcjmblocjdaaGreatV5
set_option linter.unusedVariables false
set_option linter.unusedSimpArgs false
set_option linter.unusedSectionVars false
section
namespace Go.Proofs.YtpkkcjmblocjdaaGreat.Pure
open Go.RowKit Go.Proofs.YtpkkcjmblocjdaaGreat.AM PL
def zd8 (L:List Pt) (n:Nat):List Pt:=(List.range n).map fun (j:Nat)=>nbr L (j:Int)
theorem Xr (L:List Pt) (n:Nat):(zd8 L n).length=n:=by unfold zd8;simp
theorem zhQ (L:List Pt) (n:Nat) {i:Nat} (h:i<n):rdD (0,0) (zd8 L n) (i:Int)=nbr L (i:Int):=by
 rw [zY _ _ i (by rw [Xr];exact h)]
 simp [zd8]
theorem zvm (L:List Pt) (s:Pt) (v:Int) (hs:s.1≠s.2):nbr (L++[s]) v=if s.1=v then put (nbr L v) s.2 else if s.2=v then put (nbr L v) s.1 else nbr L v:=by
 unfold nbr
 rw [zrc]
 unfold nbv
 rw [List.foldl_append]
 by_cases h1:s.1=v
 ·rw [if_pos h1,if_pos h1,if_neg (fun e=>hs (h1.trans e.symm))];rfl
 ·rw [if_neg h1,if_neg h1]
  by_cases h2:s.2=v
  ·rw [if_pos h2,if_pos h2];rfl
  ·rw [if_neg h2,if_neg h2];rfl
theorem ztB (L:List Pt) (n a b:Nat) (ha:a<n) (hb:b<n) (hab:a≠b) :
  stL (stL (zd8 L n) (a:Int) (put (nbr L (a:Int)) (b:Int))) (b:Int) (put (nbr L (b:Int)) (a:Int))=zd8 (L++[((a:Int),(b:Int))]) n:=by
 unfold stL
 simp only [Int.toNat_natCast]
 apply List.ext_getElem
 ·simp [Xr]
 ·intro j h3 h4
  have hj:j<n:=by rw [Xr] at h4;exact h4
  rw [List.getElem_set,List.getElem_set]
  simp only [zd8,List.getElem_map,List.getElem_range]
  rw [zvm _ _ _ (by dsimp only;omega)]
  dsimp only
  by_cases e1:b=j
  ·subst e1
   rw [if_pos rfl,if_neg (by omega),if_pos rfl]
  ·rw [if_neg e1]
   by_cases e2:a=j
   ·subst e2
    rw [if_pos rfl,if_pos rfl]
   ·rw [if_neg e2,if_neg (by omega),if_neg (by omega)]
theorem zxA (L:List Pt) (n a b:Nat) (x:Pt) (ha:a<n) (hb:b<n) (hab:a≠b):rdD (0,0) (stL (zd8 L n) (a:Int) x) (b:Int)=nbr L (b:Int):=by
 rw [←zhQ L n hb]
 unfold rdD stL
 simp only [Int.toNat_natCast,List.getD_eq_getElem?_getD]
 rw [List.getElem?_set_ne hab]
def sv (n:Nat) (F:List Int):List Bool:=(List.range n).map fun (j:Nat)=>decide ((j:Int)∈F)
theorem zod (n:Nat) (F:List Int):(sv n F).length=n:=by unfold sv;simp
theorem zzU (n:Nat) (F:List Int) {i:Nat} (h:i<n):rdD false (sv n F) (i:Int)=decide ((i:Int)∈F):=by
 rw [zY _ _ i (by rw [zod];exact h)]
 simp [sv]
theorem zyf (n:Nat) (F:List Int) {k:Nat} (h:k<n):stL (sv n F) (k:Int) true=sv n (F++[(k:Int)]):=by
 unfold stL
 simp only [Int.toNat_natCast]
 apply List.ext_getElem
 ·simp [zod]
 ·intro j h3 h4
  rw [List.getElem_set]
  simp only [sv,List.getElem_map,List.getElem_range]
  by_cases e:k=j
  ·subst e;rw [if_pos rfl];simp
  ·rw [if_neg e,decide_eq_decide];simp;omega
def zeM (L:List Pt) (n:Nat) (out:List (List Int)) (i:Nat):List (List Int):=if dgr L (i:Int)=0∨(i:Int)∈out.flatten then out else out++[ring (nbr L) n (i:Int)]
def zV (L:List Pt) (n i:Nat):List (List Int):=(List.range i).foldl (zeM L n) []
theorem Xb (L:List Pt) (n i:Nat):zV L n (i+1)=zeM L n (zV L n i) i:=by
 unfold zV;rw [List.range_succ,List.foldl_append];rfl
theorem zfg (L:List Pt) (n:Nat):∀i,(zV L n i).length≤i
 |0=>Nat.le_refl _
 |i+1=>by
  rw [Xb]
  have:=zfg L n i
  unfold zeM
  split
  ·omega
  ·rw [List.length_append,List.length_singleton];omega
theorem zwR (k:Nat) (x:Pt) (f:Int):Zb k x f=some (oth x f):=by
 unfold Zb oth
 by_cases h:x.1=f
 ·rw [zk h,if_pos h]
 ·rw [zg h,if_neg h]
def zdb (L:List Pt) (n:Nat):List (List Int)×Int×Int:=match row (odd L) n 0 0 with|some k=>([],(k:Int),81)|none=>(zV L n n,0,0)
theorem zvV {n:Nat} {L:List Pt} (ok:∀s∈L,oks n s∧s.1≠s.2) (two:L.Pairwise fun a b=>nrm a≠nrm b) (h:row (odd L) n 0 0=none):Lp n L:=by
 refine ⟨ok,two,fun v hv=>?_⟩
 have:=(Yo (odd L) (n:=n) (a:=0) _ 0 rfl (Nat.zero_le _)).1 h v (Nat.zero_le _) hv
 unfold odd at this
 by_cases h0:dgr L (v:Int)=0
 ·exact .inl h0
 ·by_cases h2:dgr L (v:Int)=2
  ·exact .inr h2
  ·rw [decide_eq_true h0,decide_eq_true h2] at this
   cases this
theorem zxZ (m n:Nat) (L:List Pt) (hn:n≤350) (hL:L.length≤350) (ok:∀s∈L,oks n s∧s.1≠s.2) (two:L.Pairwise fun a b=>nrm a≠nrm b):KB (m+1000) (n:Int) L=some (zdb L n):=by
 unfold KB zbB zdb
 rw [zmw m n L hn hL ok,zr]
 rw [show (!(decide ((dgs L n,(0:Int)).2=0)))=false from rfl,cF,zuq m L hL two,zr,zg (by omega),zpc m n L hn,zr]
 cases hodd:row (odd L) n 0 0 with
 |some k=>rw [zk (show ((k:Nat):Int)≥0 by omega)]
 |none =>
  have lp:=zvV ok two hodd
  have G:=lp.rg
  rw [zg (show ¬((-1:Int)≥0) by omega),zP (decide_eq_true (by omega)),zP (by unfold zfY;exact jG (by omega))]
  simp only [zx]
  have e0:∀i:Nat,i≤n→(List.replicate i ((-1:Int),(-1:Int))++List.replicate (n-i) ((0:Int),(0:Int))).length=n:=fun i hi=>by simp;omega
  have er:rpL (n:Int) ((0:Int),(0:Int))=List.replicate 0 ((-1:Int),(-1:Int))++List.replicate (n-0) ((0:Int),(0:Int)):=by
   unfold rpL;rw [Int.toNat_natCast];simp
  have el:((rpL (n:Int) ((0:Int),(0:Int)):List (Int×Int)).length:Int)=(n:Int):=by
   unfold rpL;simp
  rw [el,er]
  refine zG (fun i=>((n:Int),L,dgs L n,List.replicate i ((-1:Int),(-1:Int))++List.replicate (n-i) ((0:Int),(0:Int)),(n:Int),(i:Int))) n (fun _=>some (zV L n n,0,0)) ?_ ?_ (m+1000) 0 (Nat.zero_le _) (by omega)
  ·intro next
   dsimp only
   rw [zg (by omega),Nat.sub_self]
   have e1:List.replicate n ((-1:Int),(-1:Int))++List.replicate 0 ((0:Int),(0:Int))=zd8 (L.take 0) n:=by
    unfold zd8
    apply List.ext_getElem
    ·simp
    ·intro j h1 h2
     simp [nbr,nl,nbv]
   rw [e1]
   refine zG (fun i=>((n:Int),dgs L n,zd8 (L.take i) n,L,(L.length:Int),(i:Int))) L.length (fun _=>some (zV L n n,0,0)) ?_ ?_ (m+1000) 0 (Nat.zero_le _) (by omega)
   ·intro next
    dsimp only
    rw [zg (by omega),List.take_length,zP (decide_eq_true (by omega)),zP (by unfold zfY;exact jG (by omega)),Xr]
    have e2:rpL (n:Int) false=sv n (zV L n 0).flatten:=by
     unfold rpL sv
     rw [Int.toNat_natCast]
     apply List.ext_getElem
     ·simp
     ·intro j h1 h2
      simp [zV]
    rw [e2]
    refine zG (fun i=>(dgs L n,zd8 L n,sv n (zV L n i).flatten,zV L n i,(n:Int),(i:Int))) n (fun _=>some (zV L n n,0,0)) ?_ ?_ (m+1000) 0 (Nat.zero_le _) (by omega)
    ·intro next
     dsimp only
     rw [zg (by omega)]
    ·intro i hi next hn'
     dsimp only at hn' ⊢
     rw [zk (by omega),zP (zA ⟨by omega,by rw [Z0];omega⟩),zc4 L n hi,zl (x:=(i:Int)+1) (by omega) (by omega)]
     rw [Xb] at hn'
     have skip:(dgr L (i:Int)=0∨(i:Int)∈(zV L n i).flatten)→next (dgs L n,zd8 L n,sv n (zV L n i).flatten,zV L n i,(n:Int),(i:Int)+1)=some (zV L n n,0,0):=by
      intro h
      unfold zeM at hn'
      rw [if_pos h] at hn'
      exact hn'
     by_cases hd:dgr L (i:Int)=0
     ·rw [zk (by omega),cT]
      exact skip (.inl hd)
     rw [zg (by omega),zP (zA ⟨by omega,by rw [zod];omega⟩),zzU n _ hi]
     by_cases hs:(i:Int)∈(zV L n i).flatten
     ·rw [decide_eq_true hs,cT]
      exact skip (.inr hs)
     rw [decide_eq_false hs,cF]
     have hdi:dgr L (i:Int)=2:=(lp.deg i hi).resolve_left hd
     have hD:(0≤(i:Int)∧(i:Int)<(n:Int))∧dgr L (i:Int)=2:=⟨⟨by omega,by omega⟩,hdi⟩
     have hiall:inb (i:Int) (zd8 L n).length=true:=zA ⟨by omega,by rw [Xr];omega⟩
     simp only [hiall,gT]
     rw [zhQ L n hi]
     unfold zeM at hn'
     rw [if_neg (fun h=>h.elim hd hs)] at hn'
     obtain ⟨fr0,r0,hr0,w0,hi0⟩:=zaA G hD
     have hring:=hr0
     refine Ql (fun c s v=>∃(fr:Int) (r:List Int) (a:Int),Wk (fun v=>(0≤v∧v<(n:Int))∧dgr L v=2) (nbr L) (i:Int) fr r a∧c=n-(fr::r).length∧zjy (nbr L) (i:Int) (n+1-(fr::r).length+1) fr r a=fr0::r0 ∧
       s=(dgs L n,zd8 L n,sv n (zV L n i).flatten,zV L n i,(i:Int),(fr::r).reverse,fr,a,(n:Int),(i:Int))∧v=some (zV L n n,0,0)) ?_ (m+1000) (n-1) _ _ ⟨(i:Int),[],mnI (nbr L (i:Int)).1 (nbr L (i:Int)).2,Wk.first hD (zp1 _ _),by simp,?_,rfl,rfl⟩ (by omega)
     ·rintro c s v ⟨fr,r,a,w,rfl,hw,rfl,rfl⟩ next2 hn2
      have hlen:=w.len G
      dsimp only
      by_cases e:a=(i:Int)
      ·subst e
       rw [decide_eq_true rfl,Bool.not_true,cF]
       rw [zjy,if_pos rfl] at hw
       rw [hw,List.length_reverse]
       have hlen0:=w0.len G
       have hmem:∀x∈(fr0::r0).reverse,0≤x∧x<(n:Int):=fun x hx=>(w0.d x (List.mem_reverse.1 hx)).1
       have hl':(fr0::r0).length=((fr0::r0).reverse).length:=by rw [List.length_reverse]
       rw [hl']
       rw [hl'] at hlen0
       rw [←hring] at hmem hlen0 ⊢
       have ez:sv n (zV L n i).flatten=sv n ((zV L n i).flatten++(ring (nbr L) n (i:Int)).take 0):=by rw [List.take_zero,List.append_nil]
       rw [ez]
       refine zG (fun j=>(dgs L n,zd8 L n,sv n ((zV L n i).flatten++(ring (nbr L) n (i:Int)).take j),zV L n i,ring (nbr L) n (i:Int),(n:Int),(i:Int),ring (nbr L) n (i:Int),((ring (nbr L) n (i:Int)).length:Int),(j:Int))) (ring (nbr L) n (i:Int)).length (fun _=>some (zV L n n,0,0)) ?_ ?_ (m+1000) 0 (Nat.zero_le _) (by omega)
       ·intro next3
        have:=zfg L n i
        dsimp only
        rw [zg (by omega),zP (jG (by omega)),List.take_length]
        have ef:(zV L n i++[ring (nbr L) n (i:Int)]).flatten=(zV L n i).flatten++ring (nbr L) n (i:Int):=by simp
        rw [←ef,zl (x:=(i:Int)+1) (by omega) (by omega)]
        exact hn'
       ·intro j hj next3 hn3
        dsimp only at hn3 ⊢
        rw [zk (by omega),zP (zA ⟨by omega,by omega⟩),zY _ _ j hj,zl (x:=(j:Int)+1) (by omega) (by omega)]
        have hx:=hmem _ (List.getElem_mem hj)
        obtain ⟨x,hx'⟩:=Int.eq_ofNat_of_zero_le hx.1
        rw [hx'] at hx ⊢
        rw [zP (zA ⟨by omega,by rw [zod];omega⟩),zyf n _ (by omega)]
        rw [List.take_succ_eq_append_getElem hj,←List.append_assoc,hx'] at hn3
        exact hn3
      ·rw [decide_eq_false e,Bool.not_false,cT]
       have w':=w.step G e
       have ha:=(w'.d a List.mem_cons_self).1
       have hlen':=w'.len G
       obtain ⟨x,rfl⟩:=Int.eq_ofNat_of_zero_le ha.1
       rw [zP (jG (by rw [List.length_reverse];omega)),zP (zA ⟨by omega,by rw [Xr];omega⟩),zhQ L n (show x<n by omega)]
       simp only [Ye]
       rw [zwR,zr]
       refine hn2 (n-((x:Int)::fr::r).length) _ _ (by simp only [List.length_cons] at hlen' ⊢;omega) ⟨(x:Int),fr::r,oth (nbr L (x:Int)) fr,w',rfl,?_,by simp,rfl⟩
       rw [zjy,if_neg e] at hw
       rw [show n+1-((x:Int)::fr::r).length+1=n+1-(fr::r).length from by simp only [List.length_cons] at hlen' ⊢;omega]
       exact hw
     ·have:ring (nbr L) n (i:Int)=(zjy (nbr L) (i:Int) (n+1) (i:Int) [] (mnI (nbr L (i:Int)).1 (nbr L (i:Int)).2)).reverse:=rfl
      rw [this] at hr0
      have:=List.reverse_inj.1 hr0
      rw [show n+1-[(i:Int)].length+1=n+1 from by simp]
      exact this
   ·intro i hi next hn'
    have hs:=ok _ (List.getElem_mem hi)
    dsimp only at hn' ⊢
    rw [zk (by omega),zP (zA ⟨by omega,by omega⟩),zY _ L i hi,zl (x:=(i:Int)+1) (by omega) (by omega)]
    rw [List.take_succ_eq_append_getElem hi] at hn'
    generalize L[i]=s at hs hn' ⊢
    obtain ⟨⟨⟨a0,a1⟩,⟨b0,b1⟩⟩,hne⟩:=hs
    obtain ⟨s1,s2⟩:=s
    dsimp only at a0 a1 b0 b1 hne hn' ⊢
    obtain ⟨a,rfl⟩:=Int.eq_ofNat_of_zero_le a0
    obtain ⟨b,rfl⟩:=Int.eq_ofNat_of_zero_le b0
    have hab:a≠b:=by omega
    rw [zP (zA ⟨by omega,by rw [Xr];omega⟩),zhQ _ n (show a<n by omega)]
    have h2:∀x,inb (b:Int) (stL (zd8 (L.take i) n) (a:Int) x).length=true:=fun x=>zA ⟨by omega,by unfold stL;rw [List.length_set,Xr];omega⟩
    have h3:∀x,rdD (0,0) (stL (zd8 (L.take i) n) (a:Int) x) (b:Int)=nbr (L.take i) (b:Int):=fun x=>zxA _ n a b x (by omega) (by omega) hab
    simp only [h2,h3,gT]
    rw [←ztB _ n a b (by omega) (by omega) hab] at hn'
    unfold put at hn'
    by_cases c1:(nbr (L.take i) (a:Int)).1<0
    ·rw [zk c1]
     rw [if_pos c1] at hn'
     by_cases c2:(nbr (L.take i) (b:Int)).1<0
     ·rw [zk c2];rw [if_pos c2] at hn';exact hn'
     ·rw [zg c2];rw [if_neg c2] at hn';exact hn'
    ·rw [zg c1]
     rw [if_neg c1] at hn'
     by_cases c2:(nbr (L.take i) (b:Int)).1<0
     ·rw [zk c2];rw [if_pos c2] at hn';exact hn'
     ·rw [zg c2];rw [if_neg c2] at hn';exact hn'
  ·intro i hi next hn'
   dsimp only at hn' ⊢
   rw [zk (by omega),zP (zA ⟨by omega,by rw [e0 i (by omega)];omega⟩),zl (x:=(i:Int)+1) (by omega) (by omega)]
   have es:stL (List.replicate i ((-1:Int),(-1:Int))++List.replicate (n-i) ((0:Int),(0:Int))) (i:Int) ((-1),(-1))=List.replicate (i+1) ((-1:Int),(-1:Int))++List.replicate (n-(i+1)) ((0:Int),(0:Int)):=by
    unfold stL
    rw [Int.toNat_natCast]
    apply List.ext_getElem
    ·simp;omega
    ·intro j h1 h2
     rw [List.getElem_set]
     by_cases e:i=j
     ·subst e
      rw [if_pos rfl,List.getElem_append_left (by simp)]
      simp
     ·rw [if_neg e]
      by_cases h:j<i
      ·rw [List.getElem_append_left (by simpa using h),List.getElem_append_left (by simp;omega)]
       simp
      ·rw [List.getElem_append_right (by simp;omega),List.getElem_append_right (by simp;omega)]
       simp
   rw [es]
   exact hn'
end Go.Proofs.YtpkkcjmblocjdaaGreat.Pure
end
section
namespace Go.Proofs.YtpkkcjmblocjdaaGreat.Pure
open Go.RowKit Go.Proofs.YtpkkcjmblocjdaaGreat.AM PL
theorem zjP {s t:Pt} (h:nrm s=nrm t):(s.1=t.1∧s.2=t.2)∨(s.1=t.2∧s.2=t.1):=by
 unfold nrm mnI mxI at h
 have h1:=congrArg Prod.fst h
 have h2:=congrArg Prod.snd h
 dsimp only at h1 h2
 repeat' split at h1
 all_goals repeat' split at h2
 all_goals omega
theorem zie {a b:Pt} (hab:a≠b) (ha:Fit a) (hb:Fit b):(QF a b a b).1=4:=by
 unfold QF
 rw [if_neg (fun h:Bad a b a b=>h.elim hab (fun h=>h.elim hab (fun h=>h ⟨ha,hb,ha,hb⟩)))]
 show how a b a b=4
 unfold how
 have h0:crs a b a=0:=by unfold crs;simp
 rw [if_neg (fun h:Cro a b a b=>by
  have:=h.1
  rw [show ori a b a=0 from by unfold ori;rw [h0];split<;>rfl,Int.zero_mul] at this
  omega)]
 rw [if_pos]
 left
 unfold KT
 rw [decide_eq_true rfl,decide_eq_true rfl,decide_eq_false hab,decide_eq_false (fun h=>hab h.symm)]
 rfl
theorem zqH {a b:Pt} (hab:a≠b) (ha:Fit a) (hb:Fit b):(QF a b b a).1=4:=by
 rw [zic];exact zie hab ha hb
structure KC (p:zy):Prop where
 sm:Sm p
 n1:s1 p=none
 n2:s2 p=none
 n3:s3 p=none
theorem KC.ok {p:zy} (h:KC p):∀s∈sgs p,oks p.1.length s∧s.1≠s.2:=by
 intro s hs
 refine ⟨h.sm.s s hs,?_⟩
 obtain ⟨k,hk,rfl⟩:=List.mem_iff_getElem.1 hs
 have:=(Yo (pnt (sgs p)) (n:=(sgs p).length) (a:=0) _ 0 rfl (Nat.zero_le _)).1 h.n2 k (Nat.zero_le _) hk
 unfold pnt at this
 rw [Qz hk] at this
 exact of_decide_eq_false this
theorem KC.two {p:zy} (h:KC p):(sgs p).Pairwise fun a b=>nrm a≠nrm b:=by
 rw [List.pairwise_iff_getElem]
 intro i k hi hk hik e
 have hno:=(YY (qQ (ens p)) (n:=(ens p).length) _ 0 rfl (Nat.zero_le _)).1 h.n3 i k (Nat.zero_le _) hik (by rw [zde];exact hk)
 have hb1:=zuu h.sm h.n1 h.n2 _ (List.getElem_mem hi)
 unfold qQ at hno
 rw [Xf p hi,Xf p hk,Qz hi,Qz hk] at hno
 have hne:(en p.1 (sgs p)[i]).1≠(en p.1 (sgs p)[i]).2:=fun e=>hb1 (.inr e)
 have hfit:Fit (en p.1 (sgs p)[i]).1∧Fit (en p.1 (sgs p)[i]).2:=Decidable.byContradiction fun e=>hb1 (.inl e)
 have hno':=of_decide_eq_false hno
 rcases zjP e with ⟨e1,e2⟩|⟨e1,e2⟩
 ·rw [show (en p.1 (sgs p)[k])=en p.1 (sgs p)[i] from by unfold en;rw [e1,e2],zie hne hfit.1 hfit.2] at hno'
  exact hno' (by decide)
 ·rw [show (en p.1 (sgs p)[k])=((en p.1 (sgs p)[i]).2,(en p.1 (sgs p)[i]).1) from by unfold en;rw [e1,e2],zqH hne hfit.1 hfit.2] at hno'
  exact hno' (by decide)
theorem KC.okL {p:zy} (h:KC p):∀s∈p.2.1,oks p.1.length s∧s.1≠s.2:=fun s hs=>h.ok s (List.mem_append_left _ hs)
theorem KC.twoL {p:zy} (h:KC p):p.2.1.Pairwise fun a b=>nrm a≠nrm b:=(List.pairwise_append.1 h.two).1
theorem KC.okl {p:zy} (h:KC p):okl p.1 1 p.2.1=true:=by
 unfold Pure.okl
 rw [List.all_eq_true]
 intro s hs
 have hb:=zuu h.sm h.n1 h.n2 s (List.mem_append_left _ hs)
 have hok:=h.okL s hs
 have f1:=h.sm.fit hok.1.1
 have f2:=h.sm.fit hok.1.2
 exact decide_eq_true ⟨hok.1,fun e=>hb (.inr e),⟨f1,f2⟩,by rw [zgs];exact f1,by rw [zgs];exact f2⟩
def zne (p:zy):Nat→Nat→Bool:=fun _ k=>!decide ((K6 p.1 p.2.1 [(pt p.2.2 (k:Int)).1,(pt p.2.2 (k:Int)).2]).1=1)
def zeb (p:zy):Nat→Nat→Bool:=fun _ k=>decide (dgr (sgs p) (k:Int)=0)&&!decide ((atv p.1 p.2.1 1 (pt p.1 (k:Int))).1=1)
def s7 (p:zy):Option Nat:=row (zne p) p.2.2.length 0 0
def s8 (p:zy):Option Nat:=row (zeb p) p.1.length 0 0
def six (p:zy) (r:Flw):Flw:=if p.2.1.length=0 then (6,0,0) else r
theorem zy2 (m:Nat) {p:zy} (h:KC p):K9 (m+1000) p=some (one 5 (s5 p) (six p fz)):=by
 unfold K9 zdr
 rw [zxZ m p.1.length p.2.1 (by have:=h.sm.P;omega) (by have:=h.sm.L;omega) h.okL h.twoL,zr]
 unfold zdb s5
 cases row (odd p.2.1) p.1.length 0 0 with
 |some k=>rfl
 |none =>
  show (bif decide ((p.2.1.length:Int)=0) then some (6,0,0) else some (0,0,0))=some (six p fz)
  unfold six
  by_cases e:p.2.1.length=0
  ·rw [zk (by omega),if_pos e]
  ·rw [zg (by omega),if_neg e];rfl
theorem zyE (m:Nat) (p l:List Pt) (a b:Int) (hl:l.length≤350):jC (m+1000) p l a b=some (K6 p l [a,b]):=ztx (m+600) p l a b hl
theorem atT (m:Nat) (p l:List Pt) (q:Pt) (hl:l.length≤350):KV (m+1000) p l q=some (atv p l 1 q):=zBb (m+600) p l q hl
theorem zAP (m:Nat) {p:zy} (h:Sm p):XB (m+1000) p=some (one 7 (s7 p) fz):=by
 have hL:=h.L
 have hI:=h.I
 unfold XB zex
 refine zG (fun i=>(p,fz,p.2.2,(p.2.2.length:Int),(i:Int))) p.2.2.length (fun i=>some (one 7 (row (zne p) p.2.2.length 0 i) fz)) ?_ ?_ (m+1000) 0 (Nat.zero_le _) (by omega)
 ·intro next
  dsimp only
  rw [zg (by omega),Jt];rfl
 ·intro i hi next hn
  dsimp only at hn ⊢
  rw [zk (by omega),zP (zA ⟨by omega,by omega⟩),Qa _ hi,zl (by omega) (by omega),zyE m _ _ _ _ (by omega),zr]
  have e:(!(decide ((K6 p.1 p.2.1 [(rdD (0,0) p.2.2 (i:Int)).1,(rdD (0,0) p.2.2 (i:Int)).2]).1=1)))=zne p 0 i:=rfl
  rw [e]
  cases zne p 0 i
  ·exact hn
  ·rfl
theorem zyd (m:Nat) {p:zy} (h:KC p):Kw (m+1000) p=some (one 8 (s8 p) fz):=by
 have hL:=h.sm.L
 have hP:=h.sm.P
 unfold Kw zbG
 rw [show qW (m+1000) (p.1,p.2.1,p.2.2)=some (sgs p) from zr5 _ h.sm,zr]
 rw [zmw m p.1.length (sgs p) (by omega) (by have:=h.sm.len;omega) h.ok,zr]
 refine zG (fun i=>(p,fz,dgs (sgs p) p.1.length,((dgs (sgs p) p.1.length).length:Int),(i:Int))) p.1.length (fun i=>some (one 8 (row (zeb p) p.1.length 0 i) fz)) ?_ ?_ (m+1000) 0 (Nat.zero_le _) (by omega)
 ·intro next
  dsimp only
  rw [zg (by rw [Z0];omega),Jt];rfl
 ·intro i hi next hn
  dsimp only at hn ⊢
  rw [zk (by rw [Z0];omega),zP (zA ⟨by omega,by rw [Z0];omega⟩),zP (zA ⟨by omega,by omega⟩),Qa _ hi,zc4 _ _ hi]
  rw [atT m _ _ _ (by omega),zr]
  simp only [zx]
  rw [zl (x:=(i:Int)+1) (by omega) (by omega)]
  have e:∀x:Bool,x=zeb p 0 i→(bif x then some ((8:Int),(i:Int),(0:Int)) else next (p,fz,dgs (sgs p) p.1.length,((dgs (sgs p) p.1.length).length:Int),(i:Int)+1))=some (one 8 (if zeb p 0 i=true then some i else row (zeb p) p.1.length 0 (i+1)) fz):=by
   intro x hx
   rw [hx]
   cases zeb p 0 i
   ·exact hn
   ·rfl
  by_cases hd:dgr (sgs p) (i:Int)=0
  ·rw [zk (by omega)]
   refine e _ ?_
   unfold zeb
   rw [decide_eq_true hd];rfl
  ·rw [zg (by omega)]
   refine e false ?_
   unfold zeb
   rw [decide_eq_false hd];rfl
def zh3 (p:zy):Flw:=one 5 (s5 p) (six p (one 7 (s7 p) (one 8 (s8 p) fz)))
def zlS (p:zy):Flw:=two 1 (s1 p) (one 2 (s2 p) (two 3 (s3 p) (two 4 (s4 p) (zh3 p))))
theorem zv8 (m:Nat) {p:zy} (h:Sm p):Jd (m+1000) p=some (zlS p,0):=by
 unfold Jd zbC
 rw [show Ji (m+1000) (p.1,p.2.1,p.2.2)=some 0 from by rw [show m+1000=(m+400)+600 from rfl,zAp (m+400) p,h.chk];rfl,zr]
 rw [show (!(decide ((0:Int)=0)))=false from rfl,cF]
 simp only [zx]
 have c1:w64 (0+1)=1:=by decide
 have c2:w64 (1+1)=2:=by decide
 have c3:w64 (2+1)=3:=by decide
 have c4:w64 (3+1)=4:=by decide
 have c5:w64 (4+1)=5:=by decide
 have c6:w64 (5+1)=6:=by decide
 have c7:w64 (6+1)=7:=by decide
 have t7:∀{i:Int},i<7→decide (i<7)=true:=fun h=>decide_eq_true h
 unfold zlS
 rw [show m+1000=(m+999)+1 from rfl,q6]
 dsimp only
 rw [zk (by omega),zk rfl,zw1 m h,zr]
 cases h1:s1 p with
 |some q=>rfl
 |none =>
 dsimp only [two,fz]
 refine Eq.trans (Qx (by rfl)) ?_
 rw [c1,show m+999=(m+998)+1 from rfl,q6]
 dsimp only
 rw [zk (by omega),zg (by omega),zk rfl,show m+998+1+1=m+1000 from rfl,zxT m h,zr]
 cases h2:s2 p with
 |some q=>rfl
 |none =>
 dsimp only [one,fz]
 refine Eq.trans (Qx (by rfl)) ?_
 rw [c2,show m+998=(m+997)+1 from rfl,q6]
 dsimp only
 rw [zk (by omega),zg (by omega),zg (by omega),zk rfl,show m+997+1+1+1=m+1000 from rfl,zxq m h h1 h2,zr]
 cases h3:s3 p with
 |some q=>rfl
 |none =>
 have F:KC p:=⟨h,h1,h2,h3⟩
 dsimp only [two,fz]
 refine Eq.trans (Qx (by rfl)) ?_
 rw [c3,show m+997=(m+996)+1 from rfl,q6]
 dsimp only
 rw [zk (by omega),zg (by omega),zg (by omega),zg (by omega),zk rfl,show m+996+1+1+1+1=m+1000 from rfl,zut m h,zr]
 cases h4:s4 p with
 |some q=>rfl
 |none =>
 dsimp only [two,fz]
 refine Eq.trans (Qx (by rfl)) ?_
 rw [c4,show m+996=(m+995)+1 from rfl,q6]
 dsimp only
 rw [zk (by omega),zg (by omega),zg (by omega),zg (by omega),zg (by omega),zk rfl,show m+995+1+1+1+1+1=m+1000 from rfl,zy2 m F,zr]
 unfold zh3
 cases h5:s5 p with
 |some q=>rfl
 |none =>
 dsimp only [one]
 unfold six
 by_cases h6:p.2.1.length=0
 ·rw [if_pos h6,if_pos h6];rfl
 rw [if_neg h6,if_neg h6]
 dsimp only [fz]
 refine Eq.trans (Qx (by rfl)) ?_
 rw [c5,show m+995=(m+994)+1 from rfl,q6]
 dsimp only
 rw [zk (by omega),zg (by omega),zg (by omega),zg (by omega),zg (by omega),zg (by omega),zk rfl,show m+994+1+1+1+1+1+1=m+1000 from rfl,zAP m h,zr]
 cases h7:s7 p with
 |some q=>rfl
 |none =>
 dsimp only [one,fz]
 refine Eq.trans (Qx (by rfl)) ?_
 rw [c6,show m+994=(m+993)+1 from rfl,q6]
 dsimp only
 rw [zk (by omega),zg (by omega),zg (by omega),zg (by omega),zg (by omega),zg (by omega),zg (by omega),zk rfl,show m+993+1+1+1+1+1+1+1=m+1000 from rfl,zyd m F,zr]
 cases h8:s8 p with
 |some q=>rfl
 |none =>
 dsimp only [one,fz]
 refine Eq.trans (Qx (by rfl)) ?_
 rw [c7,show m+993=(m+992)+1 from rfl,q6]
 dsimp only
 rw [zg (by omega)]
end Go.Proofs.YtpkkcjmblocjdaaGreat.Pure
end
section
namespace Go.Proofs.YtpkkcjmblocjdaaGreat.Pure
open Go.RowKit Go.Proofs.YtpkkcjmblocjdaaGreat.AM PL
theorem zA8 (m:Nat) (p l:List Pt) (r:List Int) (h1:1≤r.length) (h3:r.length≤3) (hl:l.length≤350):jk (m+1000) p l r=some (K6 p l r):=zs8 (m+600) p l r h1 h3 hl
theorem zzy (m:Nat) (p l:List Pt) (q:Pt) (hl:l.length≤350) (hk:okl p 1 l=true) (hq:Fit q):qx (m+1000) p l 1 q=some ((atv p l 1 q).1):=by
 rw [show m+1000=(m+600)+400 from rfl,zny (m+600) p l 1 q (by omega) (by omega) hl hk hq]
 unfold atv
 rw [if_pos ⟨hk,hq⟩]
theorem zyw (m:Nat) {p:zy} (h:KC p):jt (m+1000) p=some (zh3 p):=by
 have hP:=h.sm.P
 have hL:=h.sm.L
 have hI:=h.sm.I
 have hlen:=h.sm.len
 unfold jt JC
 refine zG (fun i=>(p,fz,(i:Int))) p.1.length (fun i=>some (one 5 (row (odd p.2.1) p.1.length 0 i) (six p (one 7 (s7 p) (one 8 (s8 p) fz))))) ?_ ?_ (m+1000) 0 (Nat.zero_le _) (by omega)
 ·intro next
  dsimp only
  rw [zg (by omega),Jt]
  show _=some (six p (one 7 (s7 p) (one 8 (s8 p) fz)))
  unfold six
  by_cases h6:p.2.1.length=0
  ·rw [zk (by omega),if_pos h6]
  rw [zg (by omega),if_neg h6]
  refine zG (fun i=>(p,fz,(i:Int))) p.2.2.length (fun i=>some (one 7 (row (zne p) p.2.2.length 0 i) (one 8 (s8 p) fz))) ?_ ?_ (m+1000) 0 (Nat.zero_le _) (by omega)
  ·intro next
   dsimp only
   rw [zg (by omega),Jt]
   rw [show qI (m+1000) (p.1,p.2.1,p.2.2)=some (sgs p) from zud _ h.sm,zr]
   refine zG (fun i=>(p,fz,sgs p,(i:Int))) p.1.length (fun i=>some (one 8 (row (zeb p) p.1.length 0 i) fz)) ?_ ?_ (m+1000) 0 (Nat.zero_le _) (by omega)
   ·intro next
    dsimp only
    rw [zg (by omega),Jt];rfl
   ·intro i hi next hn
    dsimp only at hn ⊢
    rw [zk (by omega),Qa _ hi]
    have e:∀x:Bool,x=zeb p 0 i→(bif x then some ((8:Int),(i:Int),(0:Int)) else next (p,fz,sgs p,(i:Int)+1))=some (one 8 (if zeb p 0 i=true then some i else row (zeb p) p.1.length 0 (i+1)) fz):=by
     intro x hx
     rw [hx]
     cases zeb p 0 i
     ·exact hn
     ·rfl
    refine zG (fun k=>(p,fz,sgs p,(i:Int),decide (dgr ((sgs p).take k) (i:Int)≠0),(k:Int))) (sgs p).length (fun _=>some (one 8 (if zeb p 0 i=true then some i else row (zeb p) p.1.length 0 (i+1)) fz)) ?_ ?_ (m+1000) 0 (Nat.zero_le _) (by omega)
    ·intro next2
     dsimp only
     simp only [zx]
     rw [zg (by omega),List.take_length,zl (x:=(i:Int)+1) (by omega) (by omega)]
     by_cases hd:dgr (sgs p) (i:Int)=0
     ·rw [decide_eq_false (by omega),Bool.not_false,cT,zP (zA ⟨by omega,by omega⟩)]
      have hf:Fit (pt p.1 (i:Int)):=h.sm.fit ⟨by omega,by omega⟩
      rw [zzy m p.1 p.2.1 ((rdD (0,0) p.1 (i:Int)).1,(rdD (0,0) p.1 (i:Int)).2) (by omega) h.okl hf,zr]
      refine e _ ?_
      unfold zeb
      rw [decide_eq_true hd];rfl
     ·rw [decide_eq_true hd,Bool.not_true,cF]
      refine e false ?_
      unfold zeb
      rw [decide_eq_false hd];rfl
    ·intro k hk next2 hn2
     have hok:=h.ok _ (List.getElem_mem hk)
     dsimp only at hn2 ⊢
     have hin:inb (k:Int) (sgs p).length=true:=zA ⟨by omega,by omega⟩
     simp only [hin,gT,zx]
     rw [zk (by omega),zY _ _ k hk,zl (x:=(k:Int)+1) (by omega) (by omega)]
     rw [List.take_succ_eq_append_getElem hk,zli] at hn2
     by_cases c0:dgr ((sgs p).take k) (i:Int)≠0
     ·rw [decide_eq_true c0,cT]
      rw [decide_eq_true (by omega)] at hn2
      exact hn2
     ·rw [decide_eq_false c0,cF]
      by_cases c1:(sgs p)[k].1=(i:Int)
      ·rw [zk c1]
       rw [if_pos c1,decide_eq_true (by omega)] at hn2
       exact hn2
      ·rw [zg c1]
       rw [if_neg c1] at hn2
       by_cases c2:(sgs p)[k].2=(i:Int)
       ·rw [decide_eq_true c2]
        rw [if_pos c2,decide_eq_true (by omega)] at hn2
        exact hn2
       ·rw [decide_eq_false c2]
        rw [if_neg c2,decide_eq_false (by omega)] at hn2
        exact hn2
  ·intro i hi next hn
   dsimp only at hn ⊢
   have hin:inb (i:Int) p.2.2.length=true:=zA ⟨by omega,by omega⟩
   simp only [hin,gT]
   rw [zk (by omega),Qa _ hi,zl (by omega) (by omega),zA8 m _ _ _ (by simp) (by simp) (by omega),zr]
   have e:(!(decide ((K6 p.1 p.2.1 [(rdD (0,0) p.2.2 (i:Int)).1,(rdD (0,0) p.2.2 (i:Int)).2]).1=1)))=zne p 0 i:=rfl
   rw [e]
   cases zne p 0 i
   ·exact hn
   ·rfl
 ·intro i hi next hn
  dsimp only at hn ⊢
  rw [zk (by omega),Qa _ hi]
  have e:∀x:Bool,x=odd p.2.1 0 i→(bif x then some ((5:Int),(i:Int),(0:Int)) else next (p,fz,(i:Int)+1))=some (one 5 (if odd p.2.1 0 i=true then some i else row (odd p.2.1) p.1.length 0 (i+1)) (six p (one 7 (s7 p) (one 8 (s8 p) fz)))):=by
   intro x hx
   rw [hx]
   cases odd p.2.1 0 i
   ·exact hn
   ·rfl
  refine zG (fun k=>(p,fz,(i:Int),(dgr (p.2.1.take k) (i:Int):Int),(k:Int))) p.2.1.length (fun _=>some (one 5 (if odd p.2.1 0 i=true then some i else row (odd p.2.1) p.1.length 0 (i+1)) (six p (one 7 (s7 p) (one 8 (s8 p) fz))))) ?_ ?_ (m+1000) 0 (Nat.zero_le _) (by omega)
  ·intro next2
   dsimp only
   simp only [zx]
   rw [zg (by omega),List.take_length,zl (x:=(i:Int)+1) (by omega) (by omega)]
   have eo:odd p.2.1 0 i=(!decide ((dgr p.2.1 (i:Int):Int)=0)&&!decide ((dgr p.2.1 (i:Int):Int)=2)):=by
    unfold odd
    rw [show decide ((dgr p.2.1 (i:Int):Int)=0)=decide (dgr p.2.1 (i:Int)=0) from decide_eq_decide.2 (by omega),show decide ((dgr p.2.1 (i:Int):Int)=2)=decide (dgr p.2.1 (i:Int)=2) from decide_eq_decide.2 (by omega)]
    rw [decide_not,decide_not]
   cases h0:decide ((dgr p.2.1 (i:Int):Int)=0) with
   |true =>
    rw [Bool.not_true,cF]
    exact e false (by rw [eo,h0];rfl)
   |false =>
    rw [Bool.not_false,cT]
    exact e _ (by rw [eo,h0];rfl)
  ·intro k hk next2 hn2
   have hok:=h.okL _ (List.getElem_mem hk)
   have hdl:=zqw (p.2.1.take k) (i:Int)
   have htl:(p.2.1.take k).length≤k:=by rw [List.length_take];omega
   dsimp only at hn2 ⊢
   have hin:inb (k:Int) p.2.1.length=true:=zA ⟨by omega,by omega⟩
   simp only [hin,gT,zx]
   rw [zk (by omega),zY _ _ k hk,zl (x:=(k:Int)+1) (by omega) (by omega)]
   rw [List.take_succ_eq_append_getElem hk,zli] at hn2
   by_cases c1:p.2.1[k].1=(i:Int)
   ·rw [zk c1,cT,zl (x:=(dgr (p.2.1.take k) (i:Int):Int)+1) (by omega) (by omega)]
    rw [if_pos c1,if_neg (fun c2=>hok.2 (c1.trans c2.symm))] at hn2
    exact hn2
   ·rw [zg c1]
    rw [if_neg c1] at hn2
    by_cases c2:p.2.1[k].2=(i:Int)
    ·rw [decide_eq_true c2,cT,zl (x:=(dgr (p.2.1.take k) (i:Int):Int)+1) (by omega) (by omega)]
     rw [if_pos c2] at hn2
     exact hn2
    ·rw [decide_eq_false c2,cF]
     rw [if_neg c2] at hn2
     exact hn2
theorem ztu (m:Nat) {p:zy} (h:Sm p):qF (m+1000) p=some (zlS p,0):=by
 unfold qF Qm
 rw [show qP (m+1000) (p.1,p.2.1,p.2.2)=some 0 from by rw [zue m p,h.chk];rfl,zr]
 rw [show (!(decide ((0:Int)=0)))=false from rfl,cF]
 rw [show ju (m+1000) (p.1,p.2.1,p.2.2)=some (zzl p) from zyc m h,zr]
 simp only [zx]
 unfold zlS zzl
 cases h1:s1 p with
 |some q=>rfl
 |none =>
 cases h2:s2 p with
 |some q=>rfl
 |none =>
 cases h3:s3 p with
 |some q=>rfl
 |none =>
 cases h4:s4 p with
 |some q=>rfl
 |none =>
 have F:KC p:=⟨h,h1,h2,h3⟩
 refine (Kh (by rfl)).trans ?_
 rw [show jt (m+1000) (p.1,p.2.1,p.2.2)=some (zh3 p) from zyw m F,zr]
 rfl
theorem zpT (m:Nat) {p:zy} (h:chk p=false):qF (m+1000) p=some (fz,2):=by
 unfold qF Qm
 rw [show qP (m+1000) (p.1,p.2.1,p.2.2)=some 2 from by rw [zue m p,h];rfl,zr]
 rfl
end Go.Proofs.YtpkkcjmblocjdaaGreat.Pure
end
section
namespace Go.Proofs.YtpkkcjmblocjdaaGreat.Pure
open Go.RowKit Go.Proofs.YtpkkcjmblocjdaaGreat.AM PL
def zcx (p:zy):Bool:=decide ((zlS p).1=0)
structure YX (p:zy):Prop where
 fine:KC p
 n4:s4 p=none
 n5:s5 p=none
 n6:p.2.1.length≠0
 n7:s7 p=none
 n8:s8 p=none
theorem zi3 {p:zy} (h:Sm p) (hg:zcx p=true):YX p:=by
 have hg:=of_decide_eq_true hg
 unfold zlS at hg
 cases h1:s1 p with
 |some q=>rw [h1] at hg;exact absurd hg (by show ¬(1:Int)=0;decide)
 |none =>
 cases h2:s2 p with
 |some q=>rw [h1,h2] at hg;exact absurd hg (by show ¬(2:Int)=0;decide)
 |none =>
 cases h3:s3 p with
 |some q=>rw [h1,h2,h3] at hg;exact absurd hg (by show ¬(3:Int)=0;decide)
 |none =>
 cases h4:s4 p with
 |some q=>rw [h1,h2,h3,h4] at hg;exact absurd hg (by show ¬(4:Int)=0;decide)
 |none =>
 rw [h1,h2,h3,h4] at hg
 replace hg:(zh3 p).1=0:=hg
 unfold zh3 at hg
 cases h5:s5 p with
 |some q=>rw [h5] at hg;exact absurd hg (by show ¬(5:Int)=0;decide)
 |none =>
 rw [h5] at hg
 replace hg:(six p (one 7 (s7 p) (one 8 (s8 p) fz))).1=0:=hg
 unfold six at hg
 by_cases h6:p.2.1.length=0
 ·rw [if_pos h6] at hg;exact absurd hg (by show ¬(6:Int)=0;decide)
 rw [if_neg h6] at hg
 cases h7:s7 p with
 |some q=>rw [h7] at hg;exact absurd hg (by show ¬(7:Int)=0;decide)
 |none =>
 rw [h7] at hg
 replace hg:(one 8 (s8 p) fz).1=0:=hg
 cases h8:s8 p with
 |some q=>rw [h8] at hg;exact absurd hg (by show ¬(8:Int)=0;decide)
 |none=>exact ⟨⟨h,h1,h2,h3⟩,h4,h5,h6,h7,h8⟩
theorem YX.good {p:zy} (h:YX p):zlS p=fz:=by
 unfold zlS zh3 six
 rw [h.fine.n1,h.fine.n2,h.fine.n3,h.n4,h.n5,if_neg h.n6,h.n7,h.n8];rfl
theorem zvr (m:Nat) {p:zy} (h:Sm p):qB (m+1000) p=some (zcx p):=by
 unfold qB Qk
 rw [show qF (m+1000) (p.1,p.2.1,p.2.2)=some (zlS p,0) from ztu m h,zr]
 rfl
theorem zq5 (m:Nat) {p:zy} (h:chk p=false):qB (m+1000) p=some false:=by
 unfold qB Qk
 rw [show qF (m+1000) (p.1,p.2.1,p.2.2)=some (fz,2) from zpT m h,zr]
 rfl
def may (p:zy) (a b:Int):Bool:=decide (inr a p.1.length∧inr b p.1.length∧a≠b)
theorem zAy (m:Nat) (a b c:Pt):jm (m+1000) a b c=some (decide (Ins a b c)):=zcK (m+994) a b c
theorem zAO (m:Nat) (a b c d:Pt):Qr (m+1000) a b c d=some (QF a b c d):=zwo (m+994) a b c d
theorem zwI (m:Nat) (l:List Pt) (hl:l.length≤600):qN (m+1000) l l=some true:=by
 unfold qN
 rw [show (!(decide ((l.length:Int)=(l.length:Int))))=false from by rw [decide_eq_true rfl];rfl,cF]
 refine zG (fun i=>(l,l,(i:Int))) l.length (fun _=>some true) ?_ ?_ (m+1000) 0 (Nat.zero_le _) (by omega)
 ·intro next
  dsimp only
  rw [zg (by omega)]
 ·intro i hi next hn
  dsimp only at hn ⊢
  rw [zk (by omega),zP (zA ⟨by omega,by omega⟩),zP (zA ⟨by omega,by omega⟩),eqP,decide_eq_true rfl,Bool.not_true,cF,zl (by omega) (by omega)]
  exact hn
end Go.Proofs.YtpkkcjmblocjdaaGreat.Pure
end
