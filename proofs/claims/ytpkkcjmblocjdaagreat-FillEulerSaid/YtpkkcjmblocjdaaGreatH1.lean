/- Products and their difference's sign: what the functions come to. -/
import Derived.Test.YtpkkcjmblocjdaaGreatGa8
set_option linter.unusedVariables false
set_option linter.unusedSimpArgs false
set_option linter.unusedSectionVars false
namespace Go.Proofs.YtpkkcjmblocjdaaGreat.Pure
open Go.RowKit Go.Proofs.YtpkkcjmblocjdaaGreat.AM
theorem Kh {α:Type} {b:Bool} {x y:α} (h:b=true):(bif b then x else y)=x:=by rw [h];rfl
theorem Qx {α:Type} {b:Bool} {x y:α} (h:b=false):(bif b then x else y)=y:=by rw [h];rfl
theorem zk {α:Type} {p:Prop} [Decidable p] {x y:α} (h:p):(bif decide p then x else y)=x:=Kh (decide_eq_true h)
theorem zg {α:Type} {p:Prop} [Decidable p] {x y:α} (h:¬p):(bif decide p then x else y)=y:=Qx (decide_eq_false h)
theorem zP {ρ:Type} {b:Bool} {x:Option ρ} (h:b=true):gd b x=x:=by rw [h];rfl
theorem zr {α ρ:Type} (a:α) (k:α→Option ρ):bnd (some a) k=k a:=rfl
theorem q6 {α ρ:Type} (f:α→(α→Option ρ)→Option ρ) (n:Nat) (x:α):zw f (n+1) x=f x (zw f n):=rfl
theorem zA {i:Int} {n:Nat} (h:0≤i∧i<n):inb i n=true:=by unfold inb;simp [h.1,h.2]
theorem zl {x:Int} (h0:-9223372036854775808≤x) (h1:x≤9223372036854775807):w64 x=x:=by
 have:w64 x=(x+9223372036854775808) % 18446744073709551616-9223372036854775808:=by
  simp only [w64,IntKind.wrap,IntKind.signed,IntKind.bits]
  simp
  omega
 omega
theorem zrF (x:Int):IntKind.wrap .u64 x=x % 18446744073709551616:=by simp [IntKind.wrap,IntKind.signed,IntKind.bits]
theorem zaK {x:Int} (h0:0≤x) (h1:x<18446744073709551616):IntKind.wrap .u64 x=x:=by rw [zrF];omega
theorem znf {x:Int} (h0:0≤x) (h1:x<18446744073709551616):zfV .and .u64 x 4294967295=x % 4294967296:=by
 have ex:(BitVec.ofInt 64 x).toNat=x.toNat:=by rw [BitVec.toNat_ofInt];omega
 have e2:(BitVec.ofInt 64 (4294967295:Int)).toNat=2^32-1:=rfl
 show IntKind.wrap .u64 (((BitVec.ofInt 64 x &&& BitVec.ofInt 64 (4294967295:Int)).toNat:Nat):Int)=_
 rw [BitVec.toNat_and,ex,e2,Nat.and_two_pow_sub_one_eq_mod,zaK (by omega) (by omega)]
 omega
theorem zwQ {x y:Int} (hx:0≤x) (hx1:x<18446744073709551616) (hy:0≤y) (hy1:y<18446744073709551616):(!(decide (zfV .or .u64 x y=0)))=decide (x≠0∨y≠0):=by
 obtain ⟨a,rfl⟩:=Int.eq_ofNat_of_zero_le hx
 obtain ⟨b,rfl⟩:=Int.eq_ofNat_of_zero_le hy
 have e:zfV .or .u64 (a:Int) (b:Int)=((a ||| b:Nat):Int):=by
  have hlt:a ||| b<2^64:=Nat.or_lt_two_pow (by omega) (by omega)
  have ea:(BitVec.ofInt 64 (a:Int)).toNat=a:=by rw [BitVec.toNat_ofInt];omega
  have eb:(BitVec.ofInt 64 (b:Int)).toNat=b:=by rw [BitVec.toNat_ofInt];omega
  show IntKind.wrap .u64 (((BitVec.ofInt 64 (a:Int) ||| BitVec.ofInt 64 (b:Int)).toNat:Nat):Int)=_
  rw [BitVec.toNat_or,ea,eb,zaK (by omega) (by omega)]
 rw [e]
 have:(a ||| b=0)↔(a=0∧b=0):=Nat.or_eq_zero_iff
 by_cases h1:a=0<;>by_cases h2:b=0<;>simp_all<;>omega
theorem zAT (x:Int):zir .u64 x 32=x / 4294967296:=by
 show x.fdiv (2^(min (32:Int).toNat 64))=_
 rw [show (2:Int)^(min (32:Int).toNat 64)=4294967296 from rfl,Int.fdiv_eq_ediv_of_nonneg _ (by omega)]
theorem zqc {k:Nat} {a:Int} (h0:-9223372036854775807≤a) (h1:a≤9223372036854775807):QX k a=some (a.natAbs:Int):=by
 unfold QX
 rw [zl (by omega) (by omega)]
 have:mxI a (0-a)=(a.natAbs:Int):=by unfold mxI;split<;>omega
 rw [this,zaK (by omega) (by omega)]
theorem zxv {k:Nat} {a b:Int} (ha:0≤a) (ha1:a≤17179869184) (hb:0≤b) (hb1:b≤17179869184):J7 k a b=some (a*b / 18446744073709551616,a*b % 18446744073709551616):=by
 unfold J7
 simp only [zAT]
 rw [znf ha (by omega),znf hb (by omega)]
 obtain ⟨x,hx⟩:∃x,x=a / 4294967296:=⟨_,rfl⟩
 obtain ⟨y,hy⟩:∃y,y=b / 4294967296:=⟨_,rfl⟩
 obtain ⟨u,hu⟩:∃u,u=a % 4294967296:=⟨_,rfl⟩
 obtain ⟨v,hv⟩:∃v,v=b % 4294967296:=⟨_,rfl⟩
 rw [←hx,←hy,←hu,←hv]
 have hab:a*b=(x*y)*18446744073709551616+(x*v+u*y)*4294967296+u*v:=by
  have e1:a=x*4294967296+u:=by omega
  have e2:b=y*4294967296+v:=by omega
  rw [e1,e2];grind
 have hx0:0≤x:=by omega
 have hx4:x≤4:=by omega
 have hy0:0≤y:=by omega
 have hy4:y≤4:=by omega
 have hu0:0≤u:=by omega
 have hu1:u≤4294967295:=by omega
 have hv0:0≤v:=by omega
 have hv1:v≤4294967295:=by omega
 have p1:0≤x*y∧x*y≤16:=⟨Int.mul_nonneg hx0 hy0,Int.le_trans (Int.mul_le_mul hx4 hy4 hy0 (by omega)) (by omega)⟩
 have p2:0≤x*v∧x*v≤4*4294967295:=⟨Int.mul_nonneg hx0 hv0,Int.mul_le_mul hx4 hv1 hv0 (by omega)⟩
 have p3:0≤u*y∧u*y≤4294967295*4:=⟨Int.mul_nonneg hu0 hy0,Int.mul_le_mul hu1 hy4 hy0 (by omega)⟩
 have p4:0≤u*v∧u*v≤4294967295*4294967295:=⟨Int.mul_nonneg hu0 hv0,Int.mul_le_mul hu1 hv1 hv0 (by omega)⟩
 have p5:0≤a*b:=Int.mul_nonneg ha hb
 generalize x*y=P at *
 generalize x*v=Q at *
 generalize u*y=R at *
 generalize u*v=S at *
 rw [zaK (x:=P) (by omega) (by omega),zaK (x:=Q) (by omega) (by omega),zaK (x:=R) (by omega) (by omega),zaK (x:=S) (by omega) (by omega)]
 rw [zaK (x:=Q+S / 4294967296) (by omega) (by omega),zaK (x:=P+_) (by omega) (by omega)]
 rw [znf (by omega) (by omega)]
 rw [zaK (x:=(Q+S / 4294967296) % 4294967296+R) (by omega) (by omega),zaK (by omega) (by omega),zrF]
 congr 1
 rw [Prod.mk.injEq]
 refine ⟨?_,rfl⟩
 rw [hab];omega
def sg (x:Int):Int:=if x>0 then 1 else if x<0 then -1 else 0
def cmp (a b:Int):Int:=if a<b then -1 else if a>b then 1 else 0
theorem zlO (k:Nat) (a b:Int):qE k a b=some (cmp a b):=by
 simp only [qE,Jr,Z3,zr,decide_true,Bool.not_true,cond,cmp]
 by_cases h:a<b
 ·rw [decide_eq_true h,if_pos h]
 ·rw [decide_eq_false h,if_neg h]
  by_cases h2:a>b
  ·rw [decide_eq_true h2,if_pos h2]
  ·rw [decide_eq_false h2,if_neg h2]
theorem zf6 (k:Nat) (a b:Int):Zi k a b=some (cmp a b):=by
 simp only [Zi,JM,ZP,zr,decide_true,Bool.not_true,cond,cmp]
 by_cases h:a<b
 ·rw [decide_eq_true h,if_pos h]
 ·rw [decide_eq_false h,if_neg h]
  by_cases h2:a>b
  ·rw [decide_eq_true h2,if_pos h2]
  ·rw [decide_eq_false h2,if_neg h2]
end Go.Proofs.YtpkkcjmblocjdaaGreat.Pure
