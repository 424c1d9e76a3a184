/- The functions, by their texts: written by a program. -/
import Derived.Test.YtpkkcjmblocjdaaGreatGa2
import Derived.Test.YtpkkcjmblocjdaaGreatCln
set_option linter.unusedVariables false
set_option linter.unusedSimpArgs false
set_option linter.unusedSectionVars false
set_option maxRecDepth 100000
namespace Go.Proofs.YtpkkcjmblocjdaaGreat.AM
open Go.RowKit Go.Proofs
noncomputable section
def ziv:Ann:=uNn uLf (uNn uLf (uNn (uNn (.node (some [(2,.box [.d (.pair .bool (.pair (.int .u64) (.pair (.int .u64) (.pair (.int .u64) (.int .u64)))))]),(3,.box [.d (.pair .bool (.pair (.int .u64) (.pair (.int .u64) (.pair (.int .u64) (.int .u64)))))]),(5,.d kI),(6,.d kI),(17,.d .bool)]) none uLf uLf) uLf) uLf))
def zf8 (k : Nat) (Xd : (Bool × (Int × (Int × PPt))) → Option Int) (z7 : Int → Int → Option Int) (zaW : (Int × (Int × PPt)) → (Int × (Int × PPt)) → Option Int) (a0 : (Bool × (Int × (Int × PPt)))) (a1 : (Bool × (Int × (Int × PPt)))) : Option Int :=
 bnd (Xd (a0.1, a0.2.1, a0.2.2.1, a0.2.2.2.1, a0.2.2.2.2)) fun r0 =>
 bnd (Xd (a1.1, a1.2.1, a1.2.2.1, a1.2.2.2.1, a1.2.2.2.2)) fun r1 =>
 zz (α := ((Bool × (Int × (Int × PPt))) × ((Bool × (Int × (Int × PPt))) × (Int × (Int × Bool))))) (fun (y2, y3, y4, y5, y6) =>
 bif y6 then
 bnd (z7 y4 y5) fun r7 =>
 some r7
 else
 bnd (zaW (y2.2.1, y2.2.2.1, y2.2.2.2.1, y2.2.2.2.2) (y3.2.1, y3.2.2.1, y3.2.2.2.1, y3.2.2.2.2)) fun r8 =>
 some (w64 (y4 * r8))) fun j9 =>
 bif !(decide (r0 = r1)) then
 j9 ((a0.1, a0.2.1, a0.2.2.1, a0.2.2.2.1, a0.2.2.2.2), (a1.1, a1.2.1, a1.2.2.1, a1.2.2.2.1, a1.2.2.2.2), r0, r1, true)
 else
 j9 ((a0.1, a0.2.1, a0.2.2.1, a0.2.2.2.1, a0.2.2.2.2), (a1.1, a1.2.1, a1.2.2.1, a1.2.2.2.1, a1.2.2.2.2), r0, r1, decide (r0 = 0))
theorem zoN (k:Nat) (Xd:(Bool×(Int×(Int×PPt)))→Option Int) (z7:Int→Int→Option Int) (zaW:(Int×(Int×PPt))→(Int×(Int×PPt))→Option Int) (a0:(Bool×(Int×(Int×PPt)))) (a1:(Bool×(Int×(Int×PPt)))):zN [⟨177,[.d (.pair .bool (.pair (.int .u64) (.pair (.int .u64) (.pair (.int .u64) (.int .u64)))))],[kI],fun x=>Xd x,none⟩,⟨90,[.d kI,.d kI],[kI],fun x=>z7 (x.1) (x.2),none⟩,⟨178,[.d (.pair (.int .u64) (.pair (.int .u64) (.pair (.int .u64) (.int .u64)))),.d (.pair (.int .u64) (.pair (.int .u64) (.pair (.int .u64) (.int .u64))))],[kI],fun x=>zaW (x.1) (x.2),none⟩] tb k Tryz.f166 ziv [.d (.pair .bool (.pair (.int .u64) (.pair (.int .u64) (.pair (.int .u64) (.int .u64))))),.d (.pair .bool (.pair (.int .u64) (.pair (.int .u64) (.pair (.int .u64) (.int .u64)))))] [kI] (a0,a1)=zf8 k Xd z7 zaW a0 a1:=by kernel_rfl
def zak (k:Nat) (a0:(Bool×(Int×(Int×PPt)))) (a1:(Bool×(Int×(Int×PPt)))):Option Int:=zf8 k (Xc k) (qB k) (Y8 k) a0 a1
theorem zjA (k:Nat):zv Tryz.prog 166 [.d (.pair .bool (.pair (.int .u64) (.pair (.int .u64) (.pair (.int .u64) (.int .u64))))),.d (.pair .bool (.pair (.int .u64) (.pair (.int .u64) (.pair (.int .u64) (.int .u64)))))] [kI] (fun x=>zak k (x.1) (x.2)):=fun x y h=>zg zO mix (zp.cons (ze.of rfl (ziG k)) (zp.cons (ze.of rfl (Q6 k)) (zp.cons (ze.of rfl (ziM k)) (zp.nil _)))) Tryz.func166 (N:=k) (an:=ziv) (by kernel_rfl) x y ((zoN k (Xc k) (qB k) (Y8 k) (x.1) (x.2)).trans h)
def zft:Ann:=uLf
def zcK (k : Nat) (Jj : Int → Int → Option (Bool × (Int × (Int × PPt)))) (zcS : (Bool × (Int × (Int × PPt))) → (Bool × (Int × (Int × PPt))) → Option Int) (a0 : Int) (a1 : Int) (a2 : Int) (a3 : Int) : Option Int :=
 bnd (Jj a0 a1) fun r0 =>
 bnd (Jj a2 a3) fun r1 =>
 bnd (zcS (r0.1, r0.2.1, r0.2.2.1, r0.2.2.2.1, r0.2.2.2.2) (r1.1, r1.2.1, r1.2.2.1, r1.2.2.2.1, r1.2.2.2.2)) fun r2 =>
 some r2
theorem zkT (k:Nat) (Jj:Int→Int→Option (Bool×(Int×(Int×PPt)))) (zcS:(Bool×(Int×(Int×PPt)))→(Bool×(Int×(Int×PPt)))→Option Int) (a0:Int) (a1:Int) (a2:Int) (a3:Int):zN [⟨165,[.d kI,.d kI],[.pair .bool (.pair (.int .u64) (.pair (.int .u64) (.pair (.int .u64) (.int .u64))))],fun x=>Jj (x.1) (x.2),none⟩,⟨166,[.d (.pair .bool (.pair (.int .u64) (.pair (.int .u64) (.pair (.int .u64) (.int .u64))))),.d (.pair .bool (.pair (.int .u64) (.pair (.int .u64) (.pair (.int .u64) (.int .u64)))))],[kI],fun x=>zcS (x.1) (x.2),none⟩] tb k Tryz.f145 zft [.d kI,.d kI,.d kI,.d kI] [kI] (a0,a1,a2,a3)=zcK k Jj zcS a0 a1 a2 a3:=by kernel_rfl
def KW (k:Nat) (a0:Int) (a1:Int) (a2:Int) (a3:Int):Option Int:=zcK k (Jt k) (zak k) a0 a1 a2 a3
theorem zhI (k:Nat):zv Tryz.prog 145 [.d kI,.d kI,.d kI,.d kI] [kI] (fun x=>KW k (x.1) (x.2.1) (x.2.2.1) (x.2.2.2)):=fun x y h=>zg zO mix (zp.cons (ze.of rfl (zfR k)) (zp.cons (ze.of rfl (zjA k)) (zp.nil _))) Tryz.func145 (N:=k) (an:=zft) (by kernel_rfl) x y ((zkT k (Jt k) (zak k) (x.1) (x.2.1) (x.2.2.1) (x.2.2.2)).trans h)
def zet:Ann:=uLf
def zbz (k : Nat) (X9 : (List Int) → Option Bool) (XS : Int → Int → Int → Int → Option Int) (a0 : PPt) (a1 : PPt) (a2 : PPt) : Option Int :=
 bnd (X9 [w64 (a1.1 - a0.1), w64 (a2.2 - a0.2), w64 (a1.2 - a0.2), w64 (a2.1 - a0.1)]) fun r0 =>
 bif r0 then
 bif decide ((w64 ((w64 ((w64 (a1.1 - a0.1)) * (w64 (a2.2 - a0.2)))) - (w64 ((w64 (a1.2 - a0.2)) * (w64 (a2.1 - a0.1)))))) > 0) then
 some 1
 else
 bif decide ((w64 ((w64 ((w64 (a1.1 - a0.1)) * (w64 (a2.2 - a0.2)))) - (w64 ((w64 (a1.2 - a0.2)) * (w64 (a2.1 - a0.1)))))) < 0) then
 some (-1)
 else
 some 0
 else
 bnd (XS (w64 (a1.1 - a0.1)) (w64 (a2.2 - a0.2)) (w64 (a1.2 - a0.2)) (w64 (a2.1 - a0.1))) fun r1 =>
 some r1
theorem zkm (k:Nat) (X9:(List Int)→Option Bool) (XS:Int→Int→Int→Int→Option Int) (a0:PPt) (a1:PPt) (a2:PPt):zN [⟨144,[.d (.sl kI)],[.bool],fun x=>X9 x,none⟩,⟨145,[.d kI,.d kI,.d kI,.d kI],[kI],fun x=>XS (x.1) (x.2.1) (x.2.2.1) (x.2.2.2),none⟩] tb k Tryz.f109 zet [.d kPP,.d kPP,.d kPP] [kI] (a0,a1,a2)=zbz k X9 XS a0 a1 a2:=by kernel_rfl
def Ke (k:Nat) (a0:PPt) (a1:PPt) (a2:PPt):Option Int:=zbz k (KY k) (KW k) a0 a1 a2
theorem zhm (k:Nat):zv Tryz.prog 109 [.d kPP,.d kPP,.d kPP] [kI] (fun x=>Ke k (x.1) (x.2.1) (x.2.2)):=fun x y h=>zg zO mix (zp.cons (ze.of rfl (zhU k)) (zp.cons (ze.of rfl (zhI k)) (zp.nil _))) Tryz.func109 (N:=k) (an:=zet) (by kernel_rfl) x y ((zkm k (KY k) (KW k) (x.1) (x.2.1) (x.2.2)).trans h)
def zd8:Ann:=uLf
def zbg (k : Nat) (zH : LPt → Option Bool) (YY : PPt → PPt → PPt → Option Int) (a0 : PPt) (a1 : PPt) (a2 : PPt) : Option Int :=
 bnd (zH [(a0.1, a0.2), (a1.1, a1.2), (a2.1, a2.2)]) fun r0 =>
 bif !r0 then
 some 0
 else
 bnd (YY (a0.1, a0.2) (a1.1, a1.2) (a2.1, a2.2)) fun r1 =>
 some r1
theorem zjX (k:Nat) (zH:LPt→Option Bool) (YY:PPt→PPt→PPt→Option Int) (a0:PPt) (a1:PPt) (a2:PPt):zN [⟨108,[.d kLP],[.bool],fun x=>zH x,none⟩,⟨109,[.d kPP,.d kPP,.d kPP],[kI],fun x=>YY (x.1) (x.2.1) (x.2.2),none⟩] tb k Tryz.f81 zd8 [.d kPP,.d kPP,.d kPP] [kI] (a0,a1,a2)=zbg k zH YY a0 a1 a2:=by kernel_rfl
def qH (k:Nat) (a0:PPt) (a1:PPt) (a2:PPt):Option Int:=zbg k (qt k) (Ke k) a0 a1 a2
theorem Z4 (k:Nat):zv Tryz.prog 81 [.d kPP,.d kPP,.d kPP] [kI] (fun x=>qH k (x.1) (x.2.1) (x.2.2)):=fun x y h=>zg zO mix (zp.cons (ze.of rfl (jO k)) (zp.cons (ze.of rfl (zhm k)) (zp.nil _))) Tryz.func81 (N:=k) (an:=zd8) (by kernel_rfl) x y ((zjX k (qt k) (Ke k) (x.1) (x.2.1) (x.2.2)).trans h)
def zc3:Ann:=uNn uLf (uNn (.node (some [(6,.d .bool)]) none uLf uLf) uLf)
def QF (k : Nat) (a0 : Int) (a1 : Int) (a2 : Int) : Option Bool :=
 zz (α := Bool) (fun y0 =>
 some y0) fun j1 =>
 bif decide ((mnI a0 a1) ≤ a2) then
 j1 (decide (a2 ≤ (mxI a0 a1)))
 else
 j1 false
theorem ziF (k:Nat) (a0:Int) (a1:Int) (a2:Int):zN [] tb k Tryz.f154 zc3 [.d kI,.d kI,.d kI] [.bool] (a0,a1,a2)=QF k a0 a1 a2:=by kernel_rfl
theorem zgg (k:Nat):zv Tryz.prog 154 [.d kI,.d kI,.d kI] [.bool] (fun x=>QF k (x.1) (x.2.1) (x.2.2)):=fun x y h=>zg zO mix (zp.nil _) Tryz.func154 (N:=k) (an:=zc3) (by kernel_rfl) x y ((ziF k (x.1) (x.2.1) (x.2.2)).trans h)
def zkh:Ann:=uNn uLf (uNn (.node (some [(6,.d .bool)]) none uLf uLf) uLf)
def zhM (k : Nat) (zH : LPt → Option Bool) (zS : PPt → PPt → PPt → Option Int) (Jm : Int → Int → Int → Option Bool) (a0 : PPt) (a1 : PPt) (a2 : PPt) : Option Bool :=
 zz (α := Bool) (fun y0 =>
 some y0) fun j1 =>
 bif !((decide (a0.1 = a1.1)) && (decide (a0.2 = a1.2))) then
 bnd (zH [(a0.1, a0.2), (a1.1, a1.2), (a2.1, a2.2)]) fun r2 =>
 bif r2 then
 bnd (zS (a0.1, a0.2) (a1.1, a1.2) (a2.1, a2.2)) fun r3 =>
 bif decide (r3 = 0) then
 bnd (Jm a0.1 a1.1 a2.1) fun r4 =>
 bif r4 then
 bnd (Jm a0.2 a1.2 a2.2) fun r5 =>
 j1 r5
 else
 j1 false
 else
 j1 false
 else
 j1 false
 else
 j1 false
theorem zoW (k:Nat) (zH:LPt→Option Bool) (zS:PPt→PPt→PPt→Option Int) (Jm:Int→Int→Int→Option Bool) (a0:PPt) (a1:PPt) (a2:PPt):zN [⟨108,[.d kLP],[.bool],fun x=>zH x,none⟩,⟨81,[.d kPP,.d kPP,.d kPP],[kI],fun x=>zS (x.1) (x.2.1) (x.2.2),none⟩,⟨154,[.d kI,.d kI,.d kI],[.bool],fun x=>Jm (x.1) (x.2.1) (x.2.2),none⟩] tb k Tryz.f119 zkh [.d kPP,.d kPP,.d kPP] [.bool] (a0,a1,a2)=zhM k zH zS Jm a0 a1 a2:=by kernel_rfl
def KJ (k:Nat) (a0:PPt) (a1:PPt) (a2:PPt):Option Bool:=zhM k (qt k) (qH k) (QF k) a0 a1 a2
theorem zfm (k:Nat):zv Tryz.prog 119 [.d kPP,.d kPP,.d kPP] [.bool] (fun x=>KJ k (x.1) (x.2.1) (x.2.2)):=fun x y h=>zg zO mix (zp.cons (ze.of rfl (jO k)) (zp.cons (ze.of rfl (Z4 k)) (zp.cons (ze.of rfl (zgg k)) (zp.nil _)))) Tryz.func119 (N:=k) (an:=zkh) (by kernel_rfl) x y ((zoW k (qt k) (qH k) (QF k) (x.1) (x.2.1) (x.2.2)).trans h)
def zdH:Ann:=uNn uLf (uNn (.node (some [(6,.d .bool)]) none uLf uLf) uLf)
def zbh (k : Nat) (JJ : PPt → PPt → PPt → Option Bool) (a0 : PPt) (a1 : PPt) (a2 : PPt) : Option Bool :=
 zz (α := Bool) (fun y0 =>
 some y0) fun j1 =>
 bnd (JJ (a0.1, a0.2) (a1.1, a1.2) (a2.1, a2.2)) fun r2 =>
 bif r2 then
 bif !((decide (a2.1 = a0.1)) && (decide (a2.2 = a0.2))) then
 j1 (!((decide (a2.1 = a1.1)) && (decide (a2.2 = a1.2))))
 else
 j1 false
 else
 j1 false
theorem zkj (k:Nat) (JJ:PPt→PPt→PPt→Option Bool) (a0:PPt) (a1:PPt) (a2:PPt):zN [⟨119,[.d kPP,.d kPP,.d kPP],[.bool],fun x=>JJ (x.1) (x.2.1) (x.2.2),none⟩] tb k Tryz.f84 zdH [.d kPP,.d kPP,.d kPP] [.bool] (a0,a1,a2)=zbh k JJ a0 a1 a2:=by kernel_rfl
def jj (k:Nat) (a0:PPt) (a1:PPt) (a2:PPt):Option Bool:=zbh k (KJ k) a0 a1 a2
theorem K8 (k:Nat):zv Tryz.prog 84 [.d kPP,.d kPP,.d kPP] [.bool] (fun x=>jj k (x.1) (x.2.1) (x.2.2)):=fun x y h=>zg zO mix (zp.cons (ze.of rfl (zfm k)) (zp.nil _)) Tryz.func84 (N:=k) (an:=zdH) (by kernel_rfl) x y ((zkj k (KJ k) (x.1) (x.2.1) (x.2.2)).trans h)
def zg1:Ann:=uNn uLf (uNn (uNn (.node (some [(4,.box [.d kPP]),(5,.box [.d kPP]),(6,.box [.d kPP]),(7,.box [.d kPP]),(30,.d .bool)]) none uLf uLf) uLf) (uNn uLf (uNn uLf (uNn (uNn uLf (uNn (uNn (.node (some [(10,.d kI),(11,.d kI),(81,.d .bool)]) none uLf uLf) (uNn uLf (uNn (.node (some [(10,.d kI),(11,.d kI),(88,.d .bool)]) none uLf uLf) uLf))) uLf)) uLf))))
def zeL (k : Nat) (zH : LPt → Option Bool) (KU : (List Bool) → Option Int) (qw : PPt → PPt → PPt → Option Bool) (zS : PPt → PPt → PPt → Option Int) (a0 : PPt) (a1 : PPt) (a2 : PPt) (a3 : PPt) : Option PPt :=
 zz (α := (PPt × (PPt × (PPt × (PPt × Bool))))) (fun (y0, y1, y2, y3, y4) =>
 bif y4 then
 some (0, 2)
 else
 bnd (KU [(decide (y0.1 = y2.1)) && (decide (y0.2 = y2.2)), (decide (y0.1 = y3.1)) && (decide (y0.2 = y3.2)), (decide (y1.1 = y2.1)) && (decide (y1.2 = y2.2)), (decide (y1.1 = y3.1)) && (decide (y1.2 = y3.2))]) fun r5 =>
 bnd (qw (y0.1, y0.2) (y1.1, y1.2) (y2.1, y2.2)) fun r6 =>
 bnd (qw (y0.1, y0.2) (y1.1, y1.2) (y3.1, y3.2)) fun r7 =>
 bnd (qw (y2.1, y2.2) (y3.1, y3.2) (y0.1, y0.2)) fun r8 =>
 bnd (qw (y2.1, y2.2) (y3.1, y3.2) (y1.1, y1.2)) fun r9 =>
 bnd (KU [r6, r7, r8, r9]) fun r10 =>
 bnd (zS (y0.1, y0.2) (y1.1, y1.2) (y2.1, y2.2)) fun r11 =>
 bnd (zS (y0.1, y0.2) (y1.1, y1.2) (y3.1, y3.2)) fun r12 =>
 bnd (zS (y2.1, y2.2) (y3.1, y3.2) (y0.1, y0.2)) fun r13 =>
 bnd (zS (y2.1, y2.2) (y3.1, y3.2) (y1.1, y1.2)) fun r14 =>
 zz (α := (Int × (Int × Bool))) (fun (y15, y16, y17) =>
 bif y17 then
 some (3, 0)
 else
 zz (α := (Int × (Int × Bool))) (fun (y18, y19, y20) =>
 bif y20 then
 some (4, 0)
 else
 bif decide (y18 = 1) then
 some (1, 0)
 else
 bif decide (y19 = 1) then
 some (2, 0)
 else
 some (0, 0)) fun j21 =>
 bif decide (y15 = 2) then
 j21 (y15, y16, true)
 else
 bif decide (y16 > 1) then
 j21 (y15, y16, true)
 else
 bif decide (y15 = 1) then
 j21 (y15, y16, decide (y16 = 1))
 else
 j21 (y15, y16, false)) fun j22 =>
 bif decide ((w64 (r11 * r12)) < 0) then
 j22 (r5, r10, decide ((w64 (r13 * r14)) < 0))
 else
 j22 (r5, r10, false)) fun j23 =>
 bif (decide (a0.1 = a1.1)) && (decide (a0.2 = a1.2)) then
 j23 ((a0.1, a0.2), (a1.1, a1.2), (a2.1, a2.2), (a3.1, a3.2), true)
 else
 bif (decide (a2.1 = a3.1)) && (decide (a2.2 = a3.2)) then
 j23 ((a0.1, a0.2), (a1.1, a1.2), (a2.1, a2.2), (a3.1, a3.2), true)
 else
 bnd (zH [(a0.1, a0.2), (a1.1, a1.2), (a2.1, a2.2), (a3.1, a3.2)]) fun r24 =>
 j23 ((a0.1, a0.2), (a1.1, a1.2), (a2.1, a2.2), (a3.1, a3.2), !r24)
theorem zmS (k:Nat) (zH:LPt→Option Bool) (KU:(List Bool)→Option Int) (qw:PPt→PPt→PPt→Option Bool) (zS:PPt→PPt→PPt→Option Int) (a0:PPt) (a1:PPt) (a2:PPt) (a3:PPt):zN [⟨108,[.d kLP],[.bool],fun x=>zH x,none⟩,⟨120,[.d (.sl .bool)],[kI],fun x=>KU x,none⟩,⟨84,[.d kPP,.d kPP,.d kPP],[.bool],fun x=>qw (x.1) (x.2.1) (x.2.2),none⟩,⟨81,[.d kPP,.d kPP,.d kPP],[kI],fun x=>zS (x.1) (x.2.1) (x.2.2),none⟩] tb k Tryz.f85 zg1 [.d kPP,.d kPP,.d kPP,.d kPP] [kI,kI] (a0,a1,a2,a3)=zeL k zH KU qw zS a0 a1 a2 a3:=by kernel_rfl
def ZY (k:Nat) (a0:PPt) (a1:PPt) (a2:PPt) (a3:PPt):Option PPt:=zeL k (qt k) (JI k) (jj k) (qH k) a0 a1 a2 a3
theorem zda (k:Nat):zv Tryz.prog 85 [.d kPP,.d kPP,.d kPP,.d kPP] [kI,kI] (fun x=>ZY k (x.1) (x.2.1) (x.2.2.1) (x.2.2.2)):=fun x y h=>zg zO mix (zp.cons (ze.of rfl (jO k)) (zp.cons (ze.of rfl (zh2 k)) (zp.cons (ze.of rfl (K8 k)) (zp.cons (ze.of rfl (Z4 k)) (zp.nil _))))) Tryz.func85 (N:=k) (an:=zg1) (by kernel_rfl) x y ((zmS k (qt k) (JI k) (jj k) (qH k) (x.1) (x.2.1) (x.2.2.1) (x.2.2.2)).trans h)
def zfH:Ann:=uNn uLf (uNn (uNn uLf (uNn (.node none (some [(0,.d (.sl (.pair kPP kPP))),(12,.d (.sl (.pair kPP kPP))),(13,.d kI),(14,.d kI)]) (uNn uLf (uNn uLf (uNn (uNn (uNn uLf (uNn (.node (some [(0,.d (.sl (.pair kPP kPP))),(12,.d (.sl (.pair kPP kPP))),(13,.d kI),(14,.d kI),(29,.d .bool)]) none uLf uLf) uLf)) uLf) uLf))) uLf) uLf)) (uNn (uNn uLf (uNn (.node none (some [(0,.d (.sl (.pair kPP kPP))),(31,.d (.sl (.pair kPP kPP))),(32,.d kI),(33,.d kI)]) (uNn uLf (uNn uLf (uNn (uNn (uNn uLf (uNn uLf (uNn (.node none (some [(0,.d (.sl (.pair kPP kPP))),(7,.d kI),(8,.box [.d (.pair kPP kPP)]),(9,.d kI),(31,.d (.sl (.pair kPP kPP))),(32,.d kI),(33,.d kI)]) uLf uLf) uLf))) uLf) uLf))) uLf) uLf)) uLf))
def zcj (k : Nat) (zH : LPt → Option Bool) (Z6 : PPt → PPt → PPt → PPt → Option PPt) (a0 : (List (PPt × PPt))) : Option (Int × Int × Bool) :=
 zA (α := ((List (PPt × PPt)) × ((List (PPt × PPt)) × PPt))) (fun (x1, x2, x3, x4) next0 =>
 bif decide (x4 < x3) then
 gd (inb x4 x2.length) <|
 zz (α := ((List (PPt × PPt)) × ((List (PPt × PPt)) × (Int × (Int × Bool))))) (fun (y5, y6, y7, y8, y9) =>
 bif y9 then
 some (0, 0, false)
 else
 next0 (y5, y6, y7, w64 (y8 + 1))) fun j10 =>
 bnd (zH [((rdD ((0, 0), 0, 0) x2 x4).1.1, (rdD ((0, 0), 0, 0) x2 x4).1.2), ((rdD ((0, 0), 0, 0) x2 x4).2.1, (rdD ((0, 0), 0, 0) x2 x4).2.2)]) fun r11 =>
 bif !r11 then
 j10 (x1, x2, x3, x4, true)
 else
 j10 (x1, x2, x3, x4, (decide ((rdD ((0, 0), 0, 0) x2 x4).1.1 = (rdD ((0, 0), 0, 0) x2 x4).1.1)) && ((decide ((rdD ((0, 0), 0, 0) x2 x4).1.2 = (rdD ((0, 0), 0, 0) x2 x4).1.2)) && ((decide ((rdD ((0, 0), 0, 0) x2 x4).2.1 = (rdD ((0, 0), 0, 0) x2 x4).1.1)) && (decide ((rdD ((0, 0), 0, 0) x2 x4).2.2 = (rdD ((0, 0), 0, 0) x2 x4).1.2)))))
 else
 zA (α := ((List (PPt × PPt)) × ((List (PPt × PPt)) × PPt))) (fun (x13, x14, x15, x16) next12 =>
 bif decide (x16 < x15) then
 gd (inb x16 x14.length) <|
 zA (α := ((List (PPt × PPt)) × (Int × ((PPt × PPt) × (Int × ((List (PPt × PPt)) × PPt)))))) (fun (x18, x19, x20, x21, x22, x23, x24) next17 =>
 bif decide (x21 < (x18.length : Int)) then
 gd (inb x21 x18.length) <|
 gd (inb x21 x18.length) <|
 bnd (Z6 (x20.1.1, x20.1.2) (x20.2.1, x20.2.2) ((rdD ((0, 0), 0, 0) x18 x21).1.1, (rdD ((0, 0), 0, 0) x18 x21).1.2) ((rdD ((0, 0), 0, 0) x18 x21).2.1, (rdD ((0, 0), 0, 0) x18 x21).2.2)) fun r25 =>
 bif decide (r25.1 > 1) then
 some (x19, x21, true)
 else
 next17 (x18, x19, ((x20.1.1, x20.1.2), x20.2.1, x20.2.2), w64 (x21 + 1), x22, x23, x24)
 else
 next12 (x18, x22, x23, w64 (x24 + 1))) k (x13, x16, (((rdD ((0, 0), 0, 0) x14 x16).1.1, (rdD ((0, 0), 0, 0) x14 x16).1.2), (rdD ((0, 0), 0, 0) x14 x16).2.1, (rdD ((0, 0), 0, 0) x14 x16).2.2), w64 (x16 + 1), x14, x15, x16)
 else
 some (0, 0, false)) k (x1, x1, (x1.length : Int), 0)) k (a0, a0, (a0.length : Int), 0)
theorem zlg (k:Nat) (zH:LPt→Option Bool) (Z6:PPt→PPt→PPt→PPt→Option PPt) (a0:(List (PPt×PPt))):zN [⟨108,[.d kLP],[.bool],fun x=>zH x,none⟩,⟨85,[.d kPP,.d kPP,.d kPP,.d kPP],[kI,kI],fun x=>Z6 (x.1) (x.2.1) (x.2.2.1) (x.2.2.2),none⟩] tb k Tryz.f150 zfH [.d (.sl (.pair kPP kPP))] [kI,kI,.bool] a0=zcj k zH Z6 a0:=by kernel_rfl
def JQ (k:Nat) (a0:(List (PPt×PPt))):Option (Int×Int×Bool):=zcj k (qt k) (ZY k) a0
theorem zhx (k:Nat):zv Tryz.prog 150 [.d (.sl (.pair kPP kPP))] [kI,kI,.bool] (fun x=>JQ k x):=fun x y h=>zg zO mix (zp.cons (ze.of rfl (jO k)) (zp.cons (ze.of rfl (zda k)) (zp.nil _))) Tryz.func150 (N:=k) (an:=zfH) (by kernel_rfl) x y ((zlg k (qt k) (ZY k) x).trans h)
def zez:Ann:=uNn uLf (uNn uLf (uNn (uNn uLf (uNn (.node none (some [(1,.box [.d kPl]),(2,.box [.d (.pair kI kPP)]),(3,.row (.pair kPP kPP) 177),(10,.d kLP),(11,.d kI),(12,.d kI)]) uLf uLf) uLf)) uLf))
def zbA (k : Nat) (qC : TPl → Option LPt) (Zu : TPl → PPt → Option (PPt × PPt)) (XN : (List (PPt × PPt)) → Option (Int × Int × Bool)) (a0 : TPl) : Option (Int × PPt) :=
 bnd (qC (a0.1, a0.2.1, a0.2.2)) fun r0 =>
 zA (α := (TPl × ((Int × PPt) × ((List (PPt × PPt)) × (LPt × PPt))))) (fun (x2, x3, x4, x5, x6, x7) next1 =>
 bif decide (x7 < x6) then
 gd (inb x7 x5.length) <|
 bnd (Zu (x2.1, x2.2.1, x2.2.2) ((rdD (0, 0) x5 x7).1, (rdD (0, 0) x5 x7).2)) fun r8 =>
 gd (few (x4.length + 1)) <|
 next1 ((x2.1, x2.2.1, x2.2.2), (x3.1, x3.2.1, x3.2.2), x4 ++ [((r8.1.1, r8.1.2), r8.2.1, r8.2.2)], x5, x6, w64 (x7 + 1))
 else
 bnd (XN x4) fun r9 =>
 bif r9.2.2 then
 some (3, r9.1, r9.2.1)
 else
 some (0, 0, 0)) k ((a0.1, a0.2.1, a0.2.2), (0, 0, 0), [], r0, (r0.length : Int), 0)
theorem zkA (k:Nat) (qC:TPl→Option LPt) (Zu:TPl→PPt→Option (PPt×PPt)) (XN:(List (PPt×PPt))→Option (Int×Int×Bool)) (a0:TPl):zN [⟨148,[.d kPl],[.sl kPP],fun x=>qC x,none⟩,⟨149,[.d kPl,.d kPP],[.pair kPP kPP],fun x=>Zu (x.1) (x.2),none⟩,⟨150,[.d (.sl (.pair kPP kPP))],[kI,kI,.bool],fun x=>XN x,none⟩] tb k Tryz.f113 zez [.d kPl] [.pair kI kPP] a0=zbA k qC Zu XN a0:=by kernel_rfl
def Ki (k:Nat) (a0:TPl):Option (Int×PPt):=zbA k (qS k) (jX k) (JQ k) a0
theorem zgp (k:Nat):zv Tryz.prog 113 [.d kPl] [.pair kI kPP] (fun x=>Ki k x):=fun x y h=>zg zO mix (zp.cons (ze.of rfl (Ks k)) (zp.cons (ze.of rfl (zbM k)) (zp.cons (ze.of rfl (zhx k)) (zp.nil _)))) Tryz.func113 (N:=k) (an:=zez) (by kernel_rfl) x y ((zkA k (qS k) (jX k) (JQ k) x).trans h)
def zc6:Ann:=uNn uLf (uNn (uNn uLf (uNn (.node none (some [(1,.box [.d kPl]),(2,.box [.d (.pair kI kPP)]),(9,.d kLP),(10,.d kI),(11,.d kI)]) (uNn uLf (uNn uLf (uNn (uNn (uNn uLf (uNn uLf (uNn (.node none (some [(1,.box [.d kPl]),(2,.box [.d (.pair kI kPP)]),(3,.d kI),(4,.box [.d kPP]),(9,.d kLP),(10,.d kI),(11,.d kI),(17,.d kLP),(18,.d kI),(19,.d kI)]) uLf uLf) uLf))) uLf) uLf))) uLf) uLf)) uLf)
def zaC (k : Nat) (qC : TPl → Option LPt) (Zu : TPl → PPt → Option (PPt × PPt)) (qw : PPt → PPt → PPt → Option Bool) (a0 : TPl) : Option (Int × PPt) :=
 zA (α := (TPl × ((Int × PPt) × (LPt × PPt)))) (fun (x1, x2, x3, x4, x5) next0 =>
 bif decide (x5 < x4) then
 gd (inb x5 x3.length) <|
 bnd (qC (x1.1, x1.2.1, x1.2.2)) fun r6 =>
 zA (α := (TPl × ((Int × PPt) × (Int × (PPt × (LPt × (Int × (Int × (LPt × PPt))))))))) (fun (x8, x9, x10, x11, x12, x13, x14, x15, x16, x17) next7 =>
 bif decide (x17 < x16) then
 gd (inb x17 x15.length) <|
 bnd (Zu (x8.1, x8.2.1, x8.2.2) ((rdD (0, 0) x15 x17).1, (rdD (0, 0) x15 x17).2)) fun r18 =>
 bnd (qw (r18.1.1, r18.1.2) (r18.2.1, r18.2.2) (x11.1, x11.2)) fun r19 =>
 bif r19 then
 some (4, x10, x17)
 else
 next7 ((x8.1, x8.2.1, x8.2.2), (x9.1, x9.2.1, x9.2.2), x10, (x11.1, x11.2), x12, x13, x14, x15, x16, w64 (x17 + 1))
 else
 next0 ((x8.1, x8.2.1, x8.2.2), (x9.1, x9.2.1, x9.2.2), x12, x13, w64 (x14 + 1))) k ((x1.1, x1.2.1, x1.2.2), (x2.1, x2.2.1, x2.2.2), x5, ((rdD (0, 0) x3 x5).1, (rdD (0, 0) x3 x5).2), x3, x4, x5, r6, (r6.length : Int), 0)
 else
 some (0, 0, 0)) k ((a0.1, a0.2.1, a0.2.2), (0, 0, 0), a0.1, (a0.1.length : Int), 0)
theorem ziE (k:Nat) (qC:TPl→Option LPt) (Zu:TPl→PPt→Option (PPt×PPt)) (qw:PPt→PPt→PPt→Option Bool) (a0:TPl):zN [⟨148,[.d kPl],[.sl kPP],fun x=>qC x,none⟩,⟨149,[.d kPl,.d kPP],[.pair kPP kPP],fun x=>Zu (x.1) (x.2),none⟩,⟨84,[.d kPP,.d kPP,.d kPP],[.bool],fun x=>qw (x.1) (x.2.1) (x.2.2),none⟩] tb k Tryz.f114 zc6 [.d kPl] [.pair kI kPP] a0=zaC k qC Zu qw a0:=by kernel_rfl
def Js (k:Nat) (a0:TPl):Option (Int×PPt):=zaC k (qS k) (jX k) (jj k) a0
theorem zgc (k:Nat):zv Tryz.prog 114 [.d kPl] [.pair kI kPP] (fun x=>Js k x):=fun x y h=>zg zO mix (zp.cons (ze.of rfl (Ks k)) (zp.cons (ze.of rfl (zbM k)) (zp.cons (ze.of rfl (K8 k)) (zp.nil _)))) Tryz.func114 (N:=k) (an:=zc6) (by kernel_rfl) x y ((ziE k (qS k) (jX k) (jj k) x).trans h)
def zcb:Ann:=uNn uLf (uNn (uNn (.node (some [(0,.d kI),(1,.d kLP),(14,.d .bool)]) none uLf uLf) uLf) (uNn uLf (uNn (uNn uLf (uNn (.node none (some [(0,.d kI),(6,.row kI 3),(17,.d kLP),(18,.d kI),(19,.d kI)]) (uNn uLf (uNn uLf (uNn (uNn (uNn uLf (uNn (uNn (.node (some [(0,.d kI),(6,.row kI 3),(8,.box [.d kPP]),(17,.d kLP),(18,.d kI),(19,.d kI),(49,.d .bool)]) none uLf uLf) uLf) uLf)) uLf) uLf))) uLf) uLf)) uLf)))
def jM (k : Nat) (a0 : Int) (a1 : LPt) : Option ((List Int) × Int) :=
 zz (α := (Int × (LPt × Bool))) (fun (y0, y1, y2) =>
 bif y2 then
 some ([], 2)
 else
 gd (decide (0 ≤ y0)) <|
 gd (zff y0) <|
 zA (α := (Int × ((List Int) × (LPt × PPt)))) (fun (x4, x5, x6, x7, x8) next3 =>
 bif decide (x8 < x7) then
 gd (inb x8 x6.length) <|
 zz (α := (Int × ((List Int) × (PPt × (LPt × (Int × (Int × Bool))))))) (fun (y9, y10, y11, y12, y13, y14, y15) =>
 bif y15 then
 some ([], 2)
 else
 gd (inb y11.1 y10.length) <|
 gd (inb y11.1 y10.length) <|
 gd (inb y11.2 y10.length) <|
 gd (inb y11.2 y10.length) <|
 next3 (y9, stL (stL y10 y11.1 (w64 ((rdD 0 y10 y11.1) + 1))) y11.2 (w64 ((rdD 0 (stL y10 y11.1 (w64 ((rdD 0 y10 y11.1) + 1))) y11.2) + 1)), y12, y13, w64 (y14 + 1))) fun j16 =>
 bif decide ((rdD (0, 0) x6 x8).1 < 0) then
 j16 (x4, x5, ((rdD (0, 0) x6 x8).1, (rdD (0, 0) x6 x8).2), x6, x7, x8, true)
 else
 bif decide ((rdD (0, 0) x6 x8).1 ≥ x4) then
 j16 (x4, x5, ((rdD (0, 0) x6 x8).1, (rdD (0, 0) x6 x8).2), x6, x7, x8, true)
 else
 bif decide ((rdD (0, 0) x6 x8).2 < 0) then
 j16 (x4, x5, ((rdD (0, 0) x6 x8).1, (rdD (0, 0) x6 x8).2), x6, x7, x8, true)
 else
 bif decide ((rdD (0, 0) x6 x8).2 ≥ x4) then
 j16 (x4, x5, ((rdD (0, 0) x6 x8).1, (rdD (0, 0) x6 x8).2), x6, x7, x8, true)
 else
 j16 (x4, x5, ((rdD (0, 0) x6 x8).1, (rdD (0, 0) x6 x8).2), x6, x7, x8, decide ((rdD (0, 0) x6 x8).1 = (rdD (0, 0) x6 x8).2))
 else
 some (x5, 0)) k (y0, rpL y0 0, y1, (y1.length : Int), 0)) fun j17 =>
 bif decide (a0 < 0) then
 j17 (a0, a1, true)
 else
 j17 (a0, a1, decide (a0 > 1048576))
theorem zhN (k:Nat) (a0:Int) (a1:LPt):zN [] tb k Tryz.f152 zcb [.d kI,.d kLP] [.sl kI,kI] (a0,a1)=jM k a0 a1:=by kernel_rfl
theorem XD (k:Nat):zv Tryz.prog 152 [.d kI,.d kLP] [.sl kI,kI] (fun x=>jM k (x.1) (x.2)):=fun x y h=>zg zO mix (zp.nil _) Tryz.func152 (N:=k) (an:=zcb) (by kernel_rfl) x y ((zhN k (x.1) (x.2)).trans h)
def zeJ:Ann:=uNn uLf (uNn uLf (uNn (uNn uLf (uNn (.node none (some [(3,.mp kPP .bool),(7,.d kLP),(8,.d kI),(9,.d kI)]) uLf uLf) uLf)) uLf))
def Q1 (k : Nat) (a0 : LPt) : Option Int :=
 zA (α := ((List (PPt × Bool)) × (LPt × PPt))) (fun (x1, x2, x3, x4) next0 =>
 bif decide (x4 < x3) then
 gd (inb x4 x2.length) <|
 bif toT Bool (lkM (.pair (.int .i64) (.int .i64)) .bool x1 (mnI (rdD (0, 0) x2 x4).1 (rdD (0, 0) x2 x4).2, mxI (rdD (0, 0) x2 x4).1 (rdD (0, 0) x2 x4).2)) then
 some x4
 else
 gd (!(hsM (.pair (.int .i64) (.int .i64)) .bool x1 (mnI (rdD (0, 0) x2 x4).1 (rdD (0, 0) x2 x4).2, mxI (rdD (0, 0) x2 x4).1 (rdD (0, 0) x2 x4).2))) <|
 next0 (adM (.pair (.int .i64) (.int .i64)) .bool x1 (mnI (rdD (0, 0) x2 x4).1 (rdD (0, 0) x2 x4).2, mxI (rdD (0, 0) x2 x4).1 (rdD (0, 0) x2 x4).2) true, x2, x3, w64 (x4 + 1))
 else
 some (-1)) k ([], a0, (a0.length : Int), 0)
theorem zjQ (k:Nat) (a0:LPt):zN [] tb k Tryz.f168 zeJ [.d kLP] [kI] a0=Q1 k a0:=by kernel_rfl
theorem zgz (k:Nat):zv Tryz.prog 168 [.d kLP] [kI] (fun x=>Q1 k x):=fun x y h=>zg zO mix (zp.nil _) Tryz.func168 (N:=k) (an:=zeJ) (by kernel_rfl) x y ((zjQ k x).trans h)
def zbS:Ann:=uNn uLf (uNn (.node (some [(2,.d .bool)]) none uLf uLf) uLf)
def ZW (k : Nat) (a0 : Int) : Option Bool :=
 zz (α := Bool) (fun y0 =>
 some y0) fun j1 =>
 bif !(decide (a0 = 0)) then
 j1 (!(decide (a0 = 2)))
 else
 j1 false
theorem zhr (k:Nat) (a0:Int):zN [] tb k Tryz.f170 zbS [.d kI] [.bool] a0=ZW k a0:=by kernel_rfl
theorem zfe (k:Nat):zv Tryz.prog 170 [.d kI] [.bool] (fun x=>ZW k x):=fun x y h=>zg zO mix (zp.nil _) Tryz.func170 (N:=k) (an:=zbS) (by kernel_rfl) x y ((zhr k x).trans h)
def Jg:Ann:=uNn uLf (uNn (uNn uLf (uNn (.node none (some [(0,.d (.sl kI)),(1,.fn 170 [] []),(7,.d kI),(8,.d kI)]) uLf uLf) uLf)) uLf)
def ZM (k : Nat) (Kq : Int → Option Bool) (a0 : (List Int)) (a1 : (Unit × Unit)) : Option Int :=
 zA (α := ((List Int) × ((Unit × Unit) × PPt))) (fun (x1, x2, x3, x4) next0 =>
 bif decide (x4 < x3) then
 gd (inb x4 x1.length) <|
 bnd (Kq (rdD 0 x1 x4)) fun r5 =>
 bif r5 then
 some x4
 else
 next0 (x1, ((), ()), x3, w64 (x4 + 1))
 else
 some (-1)) k (a0, ((), ()), (a0.length : Int), 0)
theorem XP (k:Nat) (Kq:Int→Option Bool) (a0:(List Int)) (a1:(Unit×Unit)):zN [⟨170,[.d kI],[.bool],fun x=>Kq x,none⟩] tb k Tryz.f169 Jg [.d (.sl kI),.fn 170 [] []] [kI] (a0,a1)=ZM k Kq a0 a1:=by kernel_rfl
def q5 (k:Nat) (a0:(List Int)) (a1:(Unit×Unit)):Option Int:=ZM k (ZW k) a0 a1
theorem YJ (k:Nat):zv Tryz.prog 169 [.d (.sl kI),.fn 170 [] []] [kI] (fun x=>q5 k (x.1) (x.2)):=fun x y h=>zg zO mix (zp.cons (ze.of rfl (zfe k)) (zp.nil _)) Tryz.func169 (N:=k) (an:=Jg) (by kernel_rfl) x y ((XP k (ZW k) (x.1) (x.2)).trans h)
def XG:Ann:=uLf
def jV (k : Nat) (a0 : PPt) (a1 : Int) : Option Int :=
 bif decide (a0.1 = a1) then
 some a0.2
 else
 some a0.1
theorem zfg (k:Nat) (a0:PPt) (a1:Int):zN [] tb k Tryz.f172 XG [.d kPP,.d kI] [kI] (a0,a1)=jV k a0 a1:=by kernel_rfl
theorem zck (k:Nat):zv Tryz.prog 172 [.d kPP,.d kI] [kI] (fun x=>jV k (x.1) (x.2)):=fun x y h=>zg zO mix (zp.nil _) Tryz.func172 (N:=k) (an:=XG) (by kernel_rfl) x y ((zfg k (x.1) (x.2)).trans h)
def zd5:Ann:=uNn uLf (uNn uLf (uNn uLf (uNn uLf (uNn uLf (uNn uLf (uNn (uNn uLf (uNn (.node none (some [(0,.d kI),(1,.d kLP),(7,.d (.sl kI)),(11,.row kPP 205),(45,.d kI),(46,.d kI)]) uLf uLf) uLf)) (uNn (uNn uLf (uNn (.node none (some [(0,.d kI),(7,.d (.sl kI)),(11,.row kPP 205),(54,.d kLP),(55,.d kI),(56,.d kI)]) (uNn uLf (uNn uLf (uNn (uNn (uNn uLf (uNn (.node (some [(0,.d kI),(7,.d (.sl kI)),(11,.row kPP 205),(14,.box [.d kPP]),(54,.d kLP),(55,.d kI),(56,.d kI)]) none uLf uLf) (.node (some [(0,.d kI),(7,.d (.sl kI)),(11,.row kPP 205),(54,.d kLP),(55,.d kI),(56,.d kI)]) none uLf uLf))) uLf) uLf))) uLf) uLf)) (uNn uLf (uNn uLf (uNn (uNn uLf (uNn (.node none (some [(7,.d (.sl kI)),(11,.row kPP 205),(15,.row .bool 4),(16,.row (.sl kI) 49),(78,.d kI),(79,.d kI)]) (uNn uLf (uNn uLf (uNn (.node (some [(7,.d (.sl kI)),(11,.row kPP 205),(15,.row .bool 4),(16,.row (.sl kI) 49),(78,.d kI),(79,.d kI)]) none (uNn uLf (uNn (uNn (.node (some [(7,.d (.sl kI)),(11,.row kPP 205),(15,.row .bool 4),(16,.row (.sl kI) 49),(17,.d kI),(78,.d kI),(79,.d kI),(92,.d .bool)]) none uLf uLf) uLf) (uNn uLf (uNn uLf (uNn (uNn (.node none (some [(7,.d (.sl kI)),(11,.row kPP 205),(15,.row .bool 4),(16,.row (.sl kI) 49),(17,.d kI),(18,.row kI 3),(19,.d kI),(20,.d kI),(78,.d kI),(79,.d kI)]) uLf uLf) uLf) (uNn (uNn uLf (uNn (.node none (some [(7,.d (.sl kI)),(11,.row kPP 205),(15,.row .bool 4),(16,.row (.sl kI) 49),(18,.d (.sl kI)),(78,.d kI),(79,.d kI),(121,.d (.sl kI)),(122,.d kI),(123,.d kI)]) uLf uLf) uLf)) uLf)))))) uLf) uLf))) uLf) uLf)) uLf))))))))))
def za6 (k : Nat) (jm : Int → LPt → Option ((List Int) × Int)) (Y0 : LPt → Option Int) (jE : (List Int) → (Unit × Unit) → Option Int) (QN : PPt → Int → Option Int) (a0 : Int) (a1 : LPt) : Option ((List (List Int)) × Int × Int) :=
 bnd (jm a0 a1) fun r0 =>
 bif !(decide (r0.2 = 0)) then
 some ([], 0, r0.2)
 else
 bnd (Y0 a1) fun r1 =>
 bif decide (r1 ≥ 0) then
 some ([], r1, 80)
 else
 bnd (jE r0.1 ((), ())) fun r2 =>
 bif decide (r2 ≥ 0) then
 some ([], r2, 81)
 else
 gd (decide (0 ≤ a0)) <|
 gd (zff a0) <|
 zA (α := (Int × (LPt × ((List Int) × (LPt × PPt))))) (fun (x4, x5, x6, x7, x8, x9) next3 =>
 bif decide (x9 < x8) then
 gd (inb x9 x7.length) <|
 next3 (x4, x5, x6, stL x7 x9 ((-1), (-1)), x8, w64 (x9 + 1))
 else
 zA (α := (Int × ((List Int) × (LPt × (LPt × PPt))))) (fun (x11, x12, x13, x14, x15, x16) next10 =>
 bif decide (x16 < x15) then
 gd (inb x16 x14.length) <|
 zz (α := (Int × ((List Int) × (LPt × (PPt × (LPt × PPt)))))) (fun (y17, y18, y19, y20, y21, y22, y23) =>
 zz (α := (Int × ((List Int) × (LPt × (LPt × PPt))))) (fun (y24, y25, y26, y27, y28, y29) =>
 next10 (y24, y25, y26, y27, y28, w64 (y29 + 1))) fun j30 =>
 gd (inb y20.2 y19.length) <|
 bif decide ((rdD (0, 0) y19 y20.2).1 < 0) then
 j30 (y17, y18, stL y19 y20.2 (y20.1, (rdD (0, 0) y19 y20.2).2), y21, y22, y23)
 else
 j30 (y17, y18, stL y19 y20.2 ((rdD (0, 0) y19 y20.2).1, y20.1), y21, y22, y23)) fun j31 =>
 gd (inb (rdD (0, 0) x14 x16).1 x13.length) <|
 bif decide ((rdD (0, 0) x13 (rdD (0, 0) x14 x16).1).1 < 0) then
 j31 (x11, x12, stL x13 (rdD (0, 0) x14 x16).1 ((rdD (0, 0) x14 x16).2, (rdD (0, 0) x13 (rdD (0, 0) x14 x16).1).2), ((rdD (0, 0) x14 x16).1, (rdD (0, 0) x14 x16).2), x14, x15, x16)
 else
 j31 (x11, x12, stL x13 (rdD (0, 0) x14 x16).1 ((rdD (0, 0) x13 (rdD (0, 0) x14 x16).1).1, (rdD (0, 0) x14 x16).2), ((rdD (0, 0) x14 x16).1, (rdD (0, 0) x14 x16).2), x14, x15, x16)
 else
 gd (decide (0 ≤ x11)) <|
 gd (zff x11) <|
 zA (α := ((List Int) × (LPt × ((List Bool) × ((List (List Int)) × PPt))))) (fun (x33, x34, x35, x36, x37, x38) next32 =>
 bif decide (x38 < x37) then
 zz (α := ((List Int) × (LPt × ((List Bool) × ((List (List Int)) × PPt))))) (fun (y39, y40, y41, y42, y43, y44) =>
 next32 (y39, y40, y41, y42, y43, w64 (y44 + 1))) fun j45 =>
 zz (α := ((List Int) × (LPt × ((List Bool) × ((List (List Int)) × (Int × (Int × (Int × Bool)))))))) (fun (y46, y47, y48, y49, y50, y51, y52, y53) =>
 bif y53 then
 j45 (y46, y47, y48, y49, y51, y52)
 else
 gd (inb y50 y47.length) <|
 gd (inb y50 y47.length) <|
 zA (α := ((List Int) × (LPt × ((List Bool) × ((List (List Int)) × (Int × ((List Int) × (Int × (Int × PPt))))))))) (fun (x55, x56, x57, x58, x59, x60, x61, x62, x63, x64) next54 =>
 bif !(decide (x62 = x59)) then
 gd (few (x60.length + 1)) <|
 gd (inb x62 x56.length) <|
 bnd (QN ((rdD (0, 0) x56 x62).1, (rdD (0, 0) x56 x62).2) x61) fun r65 =>
 next54 (x55, x56, x57, x58, x59, x60 ++ [x62], x62, r65, x63, x64)
 else
 zA (α := ((List Int) × (LPt × ((List Bool) × ((List (List Int)) × ((List Int) × (Int × (Int × ((List Int) × PPt))))))))) (fun (x67, x68, x69, x70, x71, x72, x73, x74, x75, x76) next66 =>
 bif decide (x76 < x75) then
 gd (inb x76 x74.length) <|
 gd (inb (rdD 0 x74 x76) x69.length) <|
 next66 (x67, x68, stL x69 (rdD 0 x74 x76) true, x70, x71, x72, x73, x74, x75, w64 (x76 + 1))
 else
 gd (few (x70.length + 1)) <|
 j45 (x67, x68, x69, x70 ++ [x71], x72, x73)) k (x55, x56, x57, x58, x60, x63, x64, x60, (x60.length : Int), 0)) k (y46, y47, y48, y49, y50, [y50], y50, mnI (rdD (0, 0) y47 y50).1 (rdD (0, 0) y47 y50).2, y51, y52)) fun j77 =>
 gd (inb x38 x33.length) <|
 bif decide ((rdD 0 x33 x38) = 0) then
 j77 (x33, x34, x35, x36, x38, x37, x38, true)
 else
 gd (inb x38 x35.length) <|
 j77 (x33, x34, x35, x36, x38, x37, x38, rdD false x35 x38)
 else
 some (x36, 0, 0)) k (x12, x13, rpL x11 false, [], (x13.length : Int), 0)) k (x4, x6, x7, x5, (x5.length : Int), 0)) k (a0, a1, r0.1, rpL a0 (0, 0), ((rpL a0 (0, 0) : List PPt).length : Int), 0)
theorem zjf (k:Nat) (jm:Int→LPt→Option ((List Int)×Int)) (Y0:LPt→Option Int) (jE:(List Int)→(Unit×Unit)→Option Int) (QN:PPt→Int→Option Int) (a0:Int) (a1:LPt):zN [⟨171,[],[],fun _=>none,some (.code tb Tryz.f171)⟩,⟨152,[.d kI,.d kLP],[.sl kI,kI],fun x=>jm (x.1) (x.2),none⟩,⟨168,[.d kLP],[kI],fun x=>Y0 x,none⟩,⟨169,[.d (.sl kI),.fn 170 [] []],[kI],fun x=>jE (x.1) (x.2),none⟩,⟨172,[.d kPP,.d kI],[kI],fun x=>QN (x.1) (x.2),none⟩] tb k Tryz.f151 zd5 [.d kI,.d kLP] [.sl (.sl kI),kI,kI] (a0,a1)=za6 k jm Y0 jE QN a0 a1:=by kernel_rfl
def Kb (k:Nat) (a0:Int) (a1:LPt):Option ((List (List Int))×Int×Int):=za6 k (jM k) (Q1 k) (q5 k) (jV k) a0 a1
theorem zhi (k:Nat):zv Tryz.prog 151 [.d kI,.d kLP] [.sl (.sl kI),kI,kI] (fun x=>Kb k (x.1) (x.2)):=fun x y h=>zg zO mix (zp.cons (ze.go zO mix Tryz.func171 (by kernel_rfl)) (zp.cons (ze.of rfl (XD k)) (zp.cons (ze.of rfl (zgz k)) (zp.cons (ze.of rfl (YJ k)) (zp.cons (ze.of rfl (zck k)) (zp.nil _)))))) Tryz.func151 (N:=k) (an:=zd5) (by kernel_rfl) x y ((zjf k (jM k) (Q1 k) (q5 k) (jV k) (x.1) (x.2)).trans h)
def zfr:Ann:=uLf
def zc2 (k : Nat) (Y4 : Int → LPt → Option ((List (List Int)) × Int × Int)) (a0 : TPl) : Option (Int × PPt) :=
 bnd (Y4 (a0.1.length : Int) a0.2.1) fun r0 =>
 bif !(decide (r0.2.2 = 0)) then
 some (5, r0.2.1, 0)
 else
 bif decide ((a0.2.1.length : Int) = 0) then
 some (6, 0, 0)
 else
 some (0, 0, 0)
theorem zkQ (k:Nat) (Y4:Int→LPt→Option ((List (List Int))×Int×Int)) (a0:TPl):zN [⟨151,[.d kI,.d kLP],[.sl (.sl kI),kI,kI],fun x=>Y4 (x.1) (x.2),none⟩] tb k Tryz.f115 zfr [.d kPl] [.pair kI kPP] a0=zc2 k Y4 a0:=by kernel_rfl
def KZ (k:Nat) (a0:TPl):Option (Int×PPt):=zc2 k (Kb k) a0
theorem zib (k:Nat):zv Tryz.prog 115 [.d kPl] [.pair kI kPP] (fun x=>KZ k x):=fun x y h=>zg zO mix (zp.cons (ze.of rfl (zhi k)) (zp.nil _)) Tryz.func115 (N:=k) (an:=zfr) (by kernel_rfl) x y ((zkQ k (Kb k) x).trans h)
def za0:Ann:=uLf
def QD (k : Nat) (a0 : Int) (a1 : PPt) : Option PPt :=
 some (w64 (a0 * a1.1), w64 (a0 * a1.2))
theorem zgq (k:Nat) (a0:Int) (a1:PPt):zN [] tb k Tryz.f133 za0 [.d kI,.d kPP] [.pair kI kI] (a0,a1)=QD k a0 a1:=by kernel_rfl
theorem zdV (k:Nat):zv Tryz.prog 133 [.d kI,.d kPP] [.pair kI kI] (fun x=>QD k (x.1) (x.2)):=fun x y h=>zg zO mix (zp.nil _) Tryz.func133 (N:=k) (an:=za0) (by kernel_rfl) x y ((zgq k (x.1) (x.2)).trans h)
def zeB:Ann:=uNn uLf (uNn uLf (uNn (uNn uLf (uNn (.node none (some [(0,.d kLP),(2,.fn 133 [(.d kI)] []),(8,.row (.pair kPP kPP) 177),(13,.d kLP),(14,.d kI),(15,.d kI)]) (uNn uLf (uNn uLf (uNn (uNn (uNn uLf (uNn (uNn (.node (some [(0,.d kLP),(2,.fn 133 [(.d kI)] []),(8,.row (.pair kPP kPP) 177),(10,.box [.d kPP]),(13,.d kLP),(14,.d kI),(15,.d kI),(68,.d .bool)]) none uLf uLf) uLf) uLf)) uLf) uLf))) uLf) uLf)) uLf))
def zbp (k : Nat) (zH : LPt → Option Bool) (Qz : Int → PPt → Option PPt) (a0 : LPt) (a1 : LPt) (a2 : (Int × Unit)) : Option ((List (PPt × PPt)) × Bool) :=
 zA (α := (LPt × ((Int × Unit) × ((List (PPt × PPt)) × (LPt × PPt))))) (fun (x1, x2, x3, x4, x5, x6) next0 =>
 bif decide (x6 < x5) then
 gd (inb x6 x4.length) <|
 zz (α := (LPt × ((Int × Unit) × ((List (PPt × PPt)) × (PPt × (LPt × (Int × (Int × Bool)))))))) (fun (y7, y8, y9, y10, y11, y12, y13, y14) =>
 bif y14 then
 some ([], false)
 else
 gd (inb y10.1 y7.length) <|
 bnd (Qz y8.1 ((rdD (0, 0) y7 y10.1).1, (rdD (0, 0) y7 y10.1).2)) fun r15 =>
 gd (inb y10.2 y7.length) <|
 bnd (Qz y8.1 ((rdD (0, 0) y7 y10.2).1, (rdD (0, 0) y7 y10.2).2)) fun r16 =>
 bnd (zH [(r15.1, r15.2), (r16.1, r16.2)]) fun r17 =>
 bif !r17 then
 some ([], false)
 else
 gd (few (y9.length + 1)) <|
 next0 (y7, (y8.1, ()), y9 ++ [((r15.1, r15.2), r16.1, r16.2)], y11, y12, w64 (y13 + 1))) fun j18 =>
 bif decide ((rdD (0, 0) x4 x6).1 < 0) then
 j18 (x1, (x2.1, ()), x3, ((rdD (0, 0) x4 x6).1, (rdD (0, 0) x4 x6).2), x4, x5, x6, true)
 else
 bif decide ((rdD (0, 0) x4 x6).1 ≥ (x1.length : Int)) then
 j18 (x1, (x2.1, ()), x3, ((rdD (0, 0) x4 x6).1, (rdD (0, 0) x4 x6).2), x4, x5, x6, true)
 else
 bif decide ((rdD (0, 0) x4 x6).2 < 0) then
 j18 (x1, (x2.1, ()), x3, ((rdD (0, 0) x4 x6).1, (rdD (0, 0) x4 x6).2), x4, x5, x6, true)
 else
 bif decide ((rdD (0, 0) x4 x6).2 ≥ (x1.length : Int)) then
 j18 (x1, (x2.1, ()), x3, ((rdD (0, 0) x4 x6).1, (rdD (0, 0) x4 x6).2), x4, x5, x6, true)
 else
 gd (inb (rdD (0, 0) x4 x6).1 x1.length) <|
 gd (inb (rdD (0, 0) x4 x6).2 x1.length) <|
 bif (decide ((rdD (0, 0) x1 (rdD (0, 0) x4 x6).1).1 = (rdD (0, 0) x1 (rdD (0, 0) x4 x6).2).1)) && (decide ((rdD (0, 0) x1 (rdD (0, 0) x4 x6).1).2 = (rdD (0, 0) x1 (rdD (0, 0) x4 x6).2).2)) then
 j18 (x1, (x2.1, ()), x3, ((rdD (0, 0) x4 x6).1, (rdD (0, 0) x4 x6).2), x4, x5, x6, true)
 else
 gd (inb (rdD (0, 0) x4 x6).1 x1.length) <|
 gd (inb (rdD (0, 0) x4 x6).2 x1.length) <|
 bnd (zH [((rdD (0, 0) x1 (rdD (0, 0) x4 x6).1).1, (rdD (0, 0) x1 (rdD (0, 0) x4 x6).1).2), ((rdD (0, 0) x1 (rdD (0, 0) x4 x6).2).1, (rdD (0, 0) x1 (rdD (0, 0) x4 x6).2).2)]) fun r19 =>
 j18 (x1, (x2.1, ()), x3, ((rdD (0, 0) x4 x6).1, (rdD (0, 0) x4 x6).2), x4, x5, x6, !r19)
 else
 some (x3, true)) k (a0, (a2.1, ()), [], a1, (a1.length : Int), 0)
theorem zj4 (k:Nat) (zH:LPt→Option Bool) (Qz:Int→PPt→Option PPt) (a0:LPt) (a1:LPt) (a2:(Int×Unit)):zN [⟨108,[.d kLP],[.bool],fun x=>zH x,none⟩,⟨133,[.d kI,.d kPP],[.pair kI kI],fun x=>Qz (x.1) (x.2),none⟩] tb k Tryz.f132 zeB [.d kLP,.d kLP,.fn 133 [(.d kI)] []] [.sl (.pair kPP kPP),.bool] (a0,a1,a2)=zbp k zH Qz a0 a1 a2:=by kernel_rfl
def Kl (k:Nat) (a0:LPt) (a1:LPt) (a2:(Int×Unit)):Option ((List (PPt×PPt))×Bool):=zbp k (qt k) (QD k) a0 a1 a2
theorem zgF (k:Nat):zv Tryz.prog 132 [.d kLP,.d kLP,.fn 133 [(.d kI)] []] [.sl (.pair kPP kPP),.bool] (fun x=>Kl k (x.1) (x.2.1) (x.2.2)):=fun x y h=>zg zO mix (zp.cons (ze.of rfl (jO k)) (zp.cons (ze.of rfl (zdV k)) (zp.nil _))) Tryz.func132 (N:=k) (an:=zeB) (by kernel_rfl) x y ((zj4 k (qt k) (QD k) (x.1) (x.2.1) (x.2.2)).trans h)
def zdf:Ann:=uNn uLf (uNn (uNn uLf (.node (some [(3,.box [.d kPP]),(4,.box [.d kPP]),(5,.box [.d kPP])]) none uLf uLf)) (uNn (.node (some [(6,.d .bool)]) none uLf uLf) uLf))
def zaD (k : Nat) (zS : PPt → PPt → PPt → Option Int) (a0 : PPt) (a1 : PPt) (a2 : PPt) : Option Bool :=
 zz (α := (PPt × (PPt × PPt))) (fun (y0, y1, y2, y3) =>
 zz (α := Bool) (fun y4 =>
 some y4) fun j5 =>
 bif decide (y0.2 ≤ y3) then
 bif decide (y3 < y1.2) then
 bnd (zS (y0.1, y0.2) (y1.1, y1.2) (y2, y3)) fun r6 =>
 j5 (decide (r6 > 0))
 else
 j5 false
 else
 j5 false) fun j7 =>
 bif decide (a0.2 > a1.2) then
 j7 ((a1.1, a1.2), (a0.1, a0.2), a2.1, a2.2)
 else
 j7 ((a0.1, a0.2), (a1.1, a1.2), a2.1, a2.2)
theorem ziJ (k:Nat) (zS:PPt→PPt→PPt→Option Int) (a0:PPt) (a1:PPt) (a2:PPt):zN [⟨81,[.d kPP,.d kPP,.d kPP],[kI],fun x=>zS (x.1) (x.2.1) (x.2.2),none⟩] tb k Tryz.f160 zdf [.d kPP,.d kPP,.d kPP] [.bool] (a0,a1,a2)=zaD k zS a0 a1 a2:=by kernel_rfl
def Ju (k:Nat) (a0:PPt) (a1:PPt) (a2:PPt):Option Bool:=zaD k (qH k) a0 a1 a2
theorem zfX (k:Nat):zv Tryz.prog 160 [.d kPP,.d kPP,.d kPP] [.bool] (fun x=>Ju k (x.1) (x.2.1) (x.2.2)):=fun x y h=>zg zO mix (zp.cons (ze.of rfl (Z4 k)) (zp.nil _)) Tryz.func160 (N:=k) (an:=zdf) (by kernel_rfl) x y ((ziJ k (qH k) (x.1) (x.2.1) (x.2.2)).trans h)
def zc8:Ann:=uNn uLf (uNn uLf (uNn (uNn uLf (uNn (.node none (some [(3,.box [.d kPP]),(5,.d kI),(8,.d (.sl (.pair kPP kPP))),(9,.d kI),(10,.d kI)]) (uNn uLf (uNn uLf (uNn (uNn (uNn uLf (uNn (uNn uLf (uNn uLf (uNn uLf (.node (some [(3,.box [.d kPP]),(5,.d kI),(8,.d (.sl (.pair kPP kPP))),(9,.d kI),(10,.d kI)]) none uLf uLf)))) uLf)) uLf) uLf))) uLf) uLf)) uLf))
def zaB (k : Nat) (JJ : PPt → PPt → PPt → Option Bool) (KT : PPt → PPt → PPt → Option Bool) (a0 : (List (PPt × PPt))) (a1 : PPt) : Option Int :=
 zA (α := (PPt × (Int × ((List (PPt × PPt)) × PPt)))) (fun (x1, x2, x3, x4, x5) next0 =>
 bif decide (x5 < x4) then
 gd (inb x5 x3.length) <|
 bnd (JJ ((rdD ((0, 0), 0, 0) x3 x5).1.1, (rdD ((0, 0), 0, 0) x3 x5).1.2) ((rdD ((0, 0), 0, 0) x3 x5).2.1, (rdD ((0, 0), 0, 0) x3 x5).2.2) (x1.1, x1.2)) fun r6 =>
 bif r6 then
 some 0
 else
 bnd (KT ((rdD ((0, 0), 0, 0) x3 x5).1.1, (rdD ((0, 0), 0, 0) x3 x5).1.2) ((rdD ((0, 0), 0, 0) x3 x5).2.1, (rdD ((0, 0), 0, 0) x3 x5).2.2) (x1.1, x1.2)) fun r7 =>
 zz (α := (PPt × (Int × ((List (PPt × PPt)) × PPt)))) (fun (y8, y9, y10, y11, y12) =>
 next0 ((y8.1, y8.2), y9, y10, y11, w64 (y12 + 1))) fun j13 =>
 bif r7 then
 j13 ((x1.1, x1.2), w64 (0 - x2), x3, x4, x5)
 else
 j13 ((x1.1, x1.2), x2, x3, x4, x5)
 else
 some x2) k ((a1.1, a1.2), (-1), a0, (a0.length : Int), 0)
theorem ziR (k:Nat) (JJ:PPt→PPt→PPt→Option Bool) (KT:PPt→PPt→PPt→Option Bool) (a0:(List (PPt×PPt))) (a1:PPt):zN [⟨119,[.d kPP,.d kPP,.d kPP],[.bool],fun x=>JJ (x.1) (x.2.1) (x.2.2),none⟩,⟨160,[.d kPP,.d kPP,.d kPP],[.bool],fun x=>KT (x.1) (x.2.1) (x.2.2),none⟩] tb k Tryz.f134 zc8 [.d (.sl (.pair kPP kPP)),.d kPP] [kI] (a0,a1)=zaB k JJ KT a0 a1:=by kernel_rfl
def ZN (k:Nat) (a0:(List (PPt×PPt))) (a1:PPt):Option Int:=zaB k (KJ k) (Ju k) a0 a1
theorem zaJ (k:Nat):zv Tryz.prog 134 [.d (.sl (.pair kPP kPP)),.d kPP] [kI] (fun x=>ZN k (x.1) (x.2)):=fun x y h=>zg zO mix (zp.cons (ze.of rfl (zfm k)) (zp.cons (ze.of rfl (zfX k)) (zp.nil _))) Tryz.func134 (N:=k) (an:=zc8) (by kernel_rfl) x y ((ziR k (KJ k) (Ju k) (x.1) (x.2)).trans h)
end
end Go.Proofs.YtpkkcjmblocjdaaGreat.AM
