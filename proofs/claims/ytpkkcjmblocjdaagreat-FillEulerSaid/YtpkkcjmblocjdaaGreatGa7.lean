/- The functions, by their texts: written by a program. -/
import Derived.Test.YtpkkcjmblocjdaaGreatGa6
import Derived.Test.YtpkkcjmblocjdaaGreatCln
set_option linter.unusedVariables false
set_option linter.unusedSimpArgs false
set_option linter.unusedSectionVars false
set_option maxRecDepth 100000
namespace Go.Proofs.YtpkkcjmblocjdaaGreat.AM
open Go.RowKit Go.Proofs
noncomputable section
def YD:Ann:=uLf
def qO (k : Nat) (a0 : PPt) (a1 : Int) : Option PPt :=
 some (w64 (a1 * a0.1), w64 (a1 * a0.2))
theorem zd5 (k:Nat) (a0:PPt) (a1:Int):zN [] tb k Tryz.f105 YD [.d kPP,.d kI] [.pair kI kI] (a0,a1)=qO k a0 a1:=by kernel_rfl
theorem KF (k:Nat):zv Tryz.prog 105 [.d kPP,.d kI] [.pair kI kI] (fun x=>qO k (x.1) (x.2)):=fun x y h=>zh zO mix (zo.nil _) Tryz.func105 (N:=k) (an:=YD) (by kernel_rfl) x y ((zd5 k (x.1) (x.2)).trans h)
def YB:Ann:=uNn uLf (uNn (uNn uLf (uNn (.node none (some [(0,.d kLP),(1,.d kLP),(2,.d kI),(7,.d kI)]) (uNn uLf (uNn (uNn (uNn uLf (uNn (uNn (.node (some [(0,.d kLP),(1,.d kLP),(2,.d kI),(7,.d kI),(8,.box [.d kPP]),(53,.d .bool)]) none uLf uLf) uLf) (uNn (.node (some [(0,.d kLP),(1,.d kLP),(2,.d kI),(7,.d kI),(91,.d .bool)]) none uLf uLf) uLf))) uLf) uLf)) uLf) uLf)) uLf)
def JK (k : Nat) (zp : PPt → Option Bool) (qp : PPt → Int → Option PPt) (a0 : LPt) (a1 : LPt) (a2 : Int) : Option Bool :=
 zw (α := (LPt × (LPt × PPt))) (fun (x1, x2, x3, x4) next0 =>
 bif decide (x4 < (x2.length : Int)) then
 gd (inb x4 x2.length) <|
 zx (α := (LPt × (LPt × (Int × (Int × (PPt × Bool)))))) (fun (y5, y6, y7, y8, y9, y10) =>
 bif y10 then
 some false
 else
 zx (α := (LPt × (LPt × (Int × (Int × Bool))))) (fun (y11, y12, y13, y14, y15) =>
 bif y15 then
 some false
 else
 next0 (y11, y12, y13, w64 (y14 + 1))) fun j16 =>
 gd (inb y9.1 y5.length) <|
 bnd (zp ((rdD (0, 0) y5 y9.1).1, (rdD (0, 0) y5 y9.1).2)) fun r17 =>
 bif !r17 then
 j16 (y5, y6, y7, y8, true)
 else
 gd (inb y9.2 y5.length) <|
 bnd (zp ((rdD (0, 0) y5 y9.2).1, (rdD (0, 0) y5 y9.2).2)) fun r18 =>
 bif !r18 then
 j16 (y5, y6, y7, y8, true)
 else
 gd (inb y9.1 y5.length) <|
 bnd (qp ((rdD (0, 0) y5 y9.1).1, (rdD (0, 0) y5 y9.1).2) y7) fun r19 =>
 bnd (zp (r19.1, r19.2)) fun r20 =>
 bif !r20 then
 j16 (y5, y6, y7, y8, true)
 else
 gd (inb y9.2 y5.length) <|
 bnd (qp ((rdD (0, 0) y5 y9.2).1, (rdD (0, 0) y5 y9.2).2) y7) fun r21 =>
 bnd (zp (r21.1, r21.2)) fun r22 =>
 j16 (y5, y6, y7, y8, !r22)) fun j23 =>
 bif decide ((rdD (0, 0) x2 x4).1 < 0) then
 j23 (x1, x2, x3, x4, ((rdD (0, 0) x2 x4).1, (rdD (0, 0) x2 x4).2), true)
 else
 bif decide ((rdD (0, 0) x2 x4).2 < 0) then
 j23 (x1, x2, x3, x4, ((rdD (0, 0) x2 x4).1, (rdD (0, 0) x2 x4).2), true)
 else
 bif decide ((rdD (0, 0) x2 x4).1 ≥ (x1.length : Int)) then
 j23 (x1, x2, x3, x4, ((rdD (0, 0) x2 x4).1, (rdD (0, 0) x2 x4).2), true)
 else
 bif decide ((rdD (0, 0) x2 x4).2 ≥ (x1.length : Int)) then
 j23 (x1, x2, x3, x4, ((rdD (0, 0) x2 x4).1, (rdD (0, 0) x2 x4).2), true)
 else
 gd (inb (rdD (0, 0) x2 x4).1 x1.length) <|
 gd (inb (rdD (0, 0) x2 x4).2 x1.length) <|
 j23 (x1, x2, x3, x4, ((rdD (0, 0) x2 x4).1, (rdD (0, 0) x2 x4).2), (decide ((rdD (0, 0) x1 (rdD (0, 0) x2 x4).1).1 = (rdD (0, 0) x1 (rdD (0, 0) x2 x4).2).1)) && (decide ((rdD (0, 0) x1 (rdD (0, 0) x2 x4).1).2 = (rdD (0, 0) x1 (rdD (0, 0) x2 x4).2).2)))
 else
 some true) k (a0, a1, a2, 0)
theorem zee (k:Nat) (zp:PPt→Option Bool) (qp:PPt→Int→Option PPt) (a0:LPt) (a1:LPt) (a2:Int):zN [⟨72,[.d kPP],[.bool],fun x=>zp x,none⟩,⟨105,[.d kPP,.d kI],[.pair kI kI],fun x=>qp (x.1) (x.2),none⟩] tb k Tryz.f79 YB [.d kLP,.d kLP,.d kI] [.bool] (a0,a1,a2)=JK k zp qp a0 a1 a2:=by kernel_rfl
def q7 (k:Nat) (a0:LPt) (a1:LPt) (a2:Int):Option Bool:=JK k (zX k) (qO k) a0 a1 a2
theorem Kt (k:Nat):zv Tryz.prog 79 [.d kLP,.d kLP,.d kI] [.bool] (fun x=>q7 k (x.1) (x.2.1) (x.2.2)):=fun x y h=>zh zO mix (zo.cons (ze.of rfl (jy k)) (zo.cons (ze.of rfl (KF k)) (zo.nil _))) Tryz.func79 (N:=k) (an:=YB) (by kernel_rfl) x y ((zee k (zX k) (qO k) (x.1) (x.2.1) (x.2.2)).trans h)
def zaI:Ann:=uLf
def Yx (k : Nat) (zS : PPt → PPt → PPt → Option Bool) (a0 : PPt) (a1 : PPt) (a2 : PPt) : Option Bool :=
 bnd (zS (a0.1, a0.2) (a1.1, a1.2) (a2.1, a2.2)) fun r0 =>
 some r0
theorem zgW (k:Nat) (zS:PPt→PPt→PPt→Option Bool) (a0:PPt) (a1:PPt) (a2:PPt):zN [⟨74,[.d kPP,.d kPP,.d kPP],[.bool],fun x=>zS (x.1) (x.2.1) (x.2.2),none⟩] tb k Tryz.f106 zaI [.d kPP,.d kPP,.d kPP] [.bool] (a0,a1,a2)=Yx k zS a0 a1 a2:=by kernel_rfl
def Qw (k:Nat) (a0:PPt) (a1:PPt) (a2:PPt):Option Bool:=Yx k (qY k) a0 a1 a2
theorem zdZ (k:Nat):zv Tryz.prog 106 [.d kPP,.d kPP,.d kPP] [.bool] (fun x=>Qw k (x.1) (x.2.1) (x.2.2)):=fun x y h=>zh zO mix (zo.cons (ze.of rfl (Jo k)) (zo.nil _)) Tryz.func106 (N:=k) (an:=zaI) (by kernel_rfl) x y ((zgW k (qY k) (x.1) (x.2.1) (x.2.2)).trans h)
def KW:Ann:=uLf
def QZ (k : Nat) (zH : Int → Option (Bool × (List Int))) (zF : (Bool × (List Int)) → (Bool × (List Int)) → Option (Bool × (List Int))) (zz : (Bool × (List Int)) → (Bool × (List Int)) → Option (Bool × (List Int))) (qv : (Bool × (List Int)) → Option (Bool × (List Int))) (zQ : (Bool × (List Int)) → Option Int) (a0 : PPt) (a1 : PPt) (a2 : PPt) : Option Bool :=
 bnd (zH (w64 (a1.2 - a0.2))) fun r0 =>
 bnd (zH a0.1) fun r1 =>
 bnd (zF (r1.1, r1.2) (r0.1, r0.2)) fun r2 =>
 bnd (zH (w64 (a1.1 - a0.1))) fun r3 =>
 bnd (zH (w64 (a2.2 - a0.2))) fun r4 =>
 bnd (zF (r3.1, r3.2) (r4.1, r4.2)) fun r5 =>
 bnd (zz (r2.1, r2.2) (r5.1, r5.2)) fun r6 =>
 bnd (zH a2.1) fun r7 =>
 bnd (zF (r7.1, r7.2) (r0.1, r0.2)) fun r8 =>
 bnd (qv (r8.1, r8.2)) fun r9 =>
 bnd (zz (r6.1, r6.2) (r9.1, r9.2)) fun r10 =>
 bnd (zQ (r10.1, r10.2)) fun r11 =>
 bnd (zQ (r0.1, r0.2)) fun r12 =>
 some (decide ((w64 (r11 * r12)) > 0))
theorem zcP (k:Nat) (zH:Int→Option (Bool×(List Int))) (zF:(Bool×(List Int))→(Bool×(List Int))→Option (Bool×(List Int))) (zz:(Bool×(List Int))→(Bool×(List Int))→Option (Bool×(List Int))) (qv:(Bool×(List Int))→Option (Bool×(List Int))) (zQ:(Bool×(List Int))→Option Int) (a0:PPt) (a1:PPt) (a2:PPt):zN [⟨102,[.d kI],[.pair .bool (.sl kI)],fun x=>zH x,none⟩,⟨103,[.d (.pair .bool (.sl kI)),.d (.pair .bool (.sl kI))],[.pair .bool (.sl kI)],fun x=>zF (x.1) (x.2),none⟩,⟨64,[.d (.pair .bool (.sl kI)),.d (.pair .bool (.sl kI))],[.pair .bool (.sl kI)],fun x=>zz (x.1) (x.2),none⟩,⟨66,[.d (.pair .bool (.sl kI))],[.pair .bool (.sl kI)],fun x=>qv x,none⟩,⟨67,[.d (.pair .bool (.sl kI))],[kI],fun x=>zQ x,none⟩] tb k Tryz.f107 KW [.d kPP,.d kPP,.d kPP] [.bool] (a0,a1,a2)=QZ k zH zF zz qv zQ a0 a1 a2:=by kernel_rfl
def jJ (k:Nat) (a0:PPt) (a1:PPt) (a2:PPt):Option Bool:=QZ k (zJ k) (zK k) (zD k) (qm k) (zW k) a0 a1 a2
theorem za3 (k:Nat):zv Tryz.prog 107 [.d kPP,.d kPP,.d kPP] [.bool] (fun x=>jJ k (x.1) (x.2.1) (x.2.2)):=fun x y h=>zh zO mix (zo.cons (ze.of rfl (QC k)) (zo.cons (ze.of rfl (Zt k)) (zo.cons (ze.of rfl (jE k)) (zo.cons (ze.of rfl (JO k)) (zo.cons (ze.of rfl (ZA k)) (zo.nil _)))))) Tryz.func107 (N:=k) (an:=KW) (by kernel_rfl) x y ((zcP k (zJ k) (zK k) (zD k) (qm k) (zW k) (x.1) (x.2.1) (x.2.2)).trans h)
def YR:Ann:=uNn uLf (uNn uLf (uNn (uNn uLf (uNn (.node none (some [(0,.d kLP),(1,.d kLP),(2,.d kI),(7,.box [.d kPP]),(9,.d kI),(10,.d kI)]) (uNn uLf (uNn (uNn (uNn uLf (uNn uLf (uNn uLf (uNn (.node (some [(0,.d kLP),(1,.d kLP),(2,.d kI),(7,.box [.d kPP]),(9,.d kI),(10,.d kI),(59,.d .bool)]) none uLf uLf) (.node (some [(0,.d kLP),(1,.d kLP),(2,.d kI),(7,.box [.d kPP]),(9,.d kI),(10,.d kI)]) none uLf uLf))))) uLf) uLf)) uLf) uLf)) uLf))
def JE (k : Nat) (qp : PPt → Int → Option PPt) (Ju : PPt → PPt → PPt → Option Bool) (ZE : PPt → PPt → PPt → Option Bool) (a0 : LPt) (a1 : LPt) (a2 : Int) (a3 : PPt) : Option Int :=
 zw (α := (LPt × (LPt × (Int × (PPt × PPt))))) (fun (x1, x2, x3, x4, x5, x6) next0 =>
 bif decide (x6 < (x2.length : Int)) then
 gd (inb x6 x2.length) <|
 gd (inb (rdD (0, 0) x2 x6).1 x1.length) <|
 bnd (qp ((rdD (0, 0) x1 (rdD (0, 0) x2 x6).1).1, (rdD (0, 0) x1 (rdD (0, 0) x2 x6).1).2) x3) fun r7 =>
 gd (inb x6 x2.length) <|
 gd (inb (rdD (0, 0) x2 x6).2 x1.length) <|
 bnd (qp ((rdD (0, 0) x1 (rdD (0, 0) x2 x6).2).1, (rdD (0, 0) x1 (rdD (0, 0) x2 x6).2).2) x3) fun r8 =>
 bnd (Ju (r7.1, r7.2) (r8.1, r8.2) (x4.1, x4.2)) fun r9 =>
 bif r9 then
 some 0
 else
 zx (α := (LPt × (LPt × (Int × (PPt × (Int × (Int × Bool))))))) (fun (y10, y11, y12, y13, y14, y15, y16) =>
 zx (α := (LPt × (LPt × (Int × (PPt × PPt))))) (fun (y17, y18, y19, y20, y21, y22) =>
 next0 (y17, y18, y19, (y20.1, y20.2), y21, w64 (y22 + 1))) fun j23 =>
 bif y16 then
 j23 (y10, y11, y12, (y13.1, y13.2), w64 (y14 + 1), y15)
 else
 j23 (y10, y11, y12, (y13.1, y13.2), y14, y15)) fun j24 =>
 bif !((decide (r7.2 > x4.2)) == (decide (r8.2 > x4.2))) then
 bnd (ZE (r7.1, r7.2) (r8.1, r8.2) (x4.1, x4.2)) fun r25 =>
 j24 (x1, x2, x3, (x4.1, x4.2), x5, x6, r25)
 else
 j24 (x1, x2, x3, (x4.1, x4.2), x5, x6, false)
 else
 bif decide ((x5.tmod 2) = 1) then
 some 1
 else
 some (-1)) k (a0, a1, a2, (a3.1, a3.2), 0, 0)
theorem zdW (k:Nat) (qp:PPt→Int→Option PPt) (Ju:PPt→PPt→PPt→Option Bool) (ZE:PPt→PPt→PPt→Option Bool) (a0:LPt) (a1:LPt) (a2:Int) (a3:PPt):zN [⟨105,[.d kPP,.d kI],[.pair kI kI],fun x=>qp (x.1) (x.2),none⟩,⟨106,[.d kPP,.d kPP,.d kPP],[.bool],fun x=>Ju (x.1) (x.2.1) (x.2.2),none⟩,⟨107,[.d kPP,.d kPP,.d kPP],[.bool],fun x=>ZE (x.1) (x.2.1) (x.2.2),none⟩] tb k Tryz.f80 YR [.d kLP,.d kLP,.d kI,.d kPP] [kI] (a0,a1,a2,a3)=JE k qp Ju ZE a0 a1 a2 a3:=by kernel_rfl
def qx (k:Nat) (a0:LPt) (a1:LPt) (a2:Int) (a3:PPt):Option Int:=JE k (qO k) (Qw k) (jJ k) a0 a1 a2 a3
theorem QE (k:Nat):zv Tryz.prog 80 [.d kLP,.d kLP,.d kI,.d kPP] [kI] (fun x=>qx k (x.1) (x.2.1) (x.2.2.1) (x.2.2.2)):=fun x y h=>zh zO mix (zo.cons (ze.of rfl (KF k)) (zo.cons (ze.of rfl (zdZ k)) (zo.cons (ze.of rfl (za3 k)) (zo.nil _)))) Tryz.func80 (N:=k) (an:=YR) (by kernel_rfl) x y ((zdW k (qO k) (Qw k) (jJ k) (x.1) (x.2.1) (x.2.2.1) (x.2.2.2)).trans h)
def Yn:Ann:=uNn uLf (uNn uLf (uNn (uNn uLf (uNn (.node none (some [(0,.d kLP),(1,.d kLP),(2,.d (.sl kI)),(8,.box [.d kPP]),(9,.d kI)]) (uNn uLf (uNn (uNn (uNn (uNn (.node (some [(0,.d kLP),(1,.d kLP),(2,.d (.sl kI)),(8,.box [.d kPP]),(9,.d kI),(41,.d .bool)]) none uLf uLf) uLf) uLf) uLf) uLf)) uLf) uLf)) (uNn (uNn (.node (some [(0,.d kLP),(1,.d kLP),(2,.d (.sl kI)),(8,.box [.d kPP]),(76,.d .bool)]) none uLf uLf) uLf) uLf)))
def Jk (k : Nat) (zp : PPt → Option Bool) (qC : LPt → LPt → Int → Option Bool) (z8 : LPt → LPt → Int → PPt → Option Int) (a0 : LPt) (a1 : LPt) (a2 : (List Int)) : Option PPt :=
 zw (α := (LPt × (LPt × ((List Int) × (PPt × Int))))) (fun (x1, x2, x3, x4, x5) next0 =>
 bif decide (x5 < (x3.length : Int)) then
 zx (α := (LPt × (LPt × ((List Int) × (PPt × (Int × Bool)))))) (fun (y6, y7, y8, y9, y10, y11) =>
 bif y11 then
 some (0, 2)
 else
 gd (inb y10 y8.length) <|
 gd (inb (rdD 0 y8 y10) y6.length) <|
 gd (inb y10 y8.length) <|
 gd (inb (rdD 0 y8 y10) y6.length) <|
 next0 (y6, y7, y8, (w64 (y9.1 + (rdD (0, 0) y6 (rdD 0 y8 y10)).1), w64 (y9.2 + (rdD (0, 0) y6 (rdD 0 y8 y10)).2)), w64 (y10 + 1))) fun j12 =>
 gd (inb x5 x3.length) <|
 bif decide ((rdD 0 x3 x5) < 0) then
 j12 (x1, x2, x3, (x4.1, x4.2), x5, true)
 else
 gd (inb x5 x3.length) <|
 bif decide ((rdD 0 x3 x5) ≥ (x1.length : Int)) then
 j12 (x1, x2, x3, (x4.1, x4.2), x5, true)
 else
 gd (inb x5 x3.length) <|
 gd (inb (rdD 0 x3 x5) x1.length) <|
 bnd (zp ((rdD (0, 0) x1 (rdD 0 x3 x5)).1, (rdD (0, 0) x1 (rdD 0 x3 x5)).2)) fun r13 =>
 j12 (x1, x2, x3, (x4.1, x4.2), x5, !r13)
 else
 zx (α := (LPt × (LPt × ((List Int) × (PPt × Bool))))) (fun (y14, y15, y16, y17, y18) =>
 bif y18 then
 some (0, 2)
 else
 bnd (z8 y14 y15 (y16.length : Int) (y17.1, y17.2)) fun r19 =>
 some (r19, 0)) fun j20 =>
 bnd (qC x1 x2 (x3.length : Int)) fun r21 =>
 bif !r21 then
 j20 (x1, x2, x3, (x4.1, x4.2), true)
 else
 bnd (zp (x4.1, x4.2)) fun r22 =>
 j20 (x1, x2, x3, (x4.1, x4.2), !r22)) k (a0, a1, a2, (0, 0), 0)
theorem zdh (k:Nat) (zp:PPt→Option Bool) (qC:LPt→LPt→Int→Option Bool) (z8:LPt→LPt→Int→PPt→Option Int) (a0:LPt) (a1:LPt) (a2:(List Int)):zN [⟨72,[.d kPP],[.bool],fun x=>zp x,none⟩,⟨79,[.d kLP,.d kLP,.d kI],[.bool],fun x=>qC (x.1) (x.2.1) (x.2.2),none⟩,⟨80,[.d kLP,.d kLP,.d kI,.d kPP],[kI],fun x=>z8 (x.1) (x.2.1) (x.2.2.1) (x.2.2.2),none⟩] tb k Tryz.f37 Yn [.d kLP,.d kLP,.d (.sl kI)] [kI,kI] (a0,a1,a2)=Jk k zp qC z8 a0 a1 a2:=by kernel_rfl
def jk (k:Nat) (a0:LPt) (a1:LPt) (a2:(List Int)):Option PPt:=Jk k (zX k) (q7 k) (qx k) a0 a1 a2
theorem zbd (k:Nat):zv Tryz.prog 37 [.d kLP,.d kLP,.d (.sl kI)] [kI,kI] (fun x=>jk k (x.1) (x.2.1) (x.2.2)):=fun x y h=>zh zO mix (zo.cons (ze.of rfl (jy k)) (zo.cons (ze.of rfl (Kt k)) (zo.cons (ze.of rfl (QE k)) (zo.nil _)))) Tryz.func37 (N:=k) (an:=Yn) (by kernel_rfl) x y ((zdh k (zX k) (q7 k) (qx k) (x.1) (x.2.1) (x.2.2)).trans h)
def YJ:Ann:=uNn uLf (uNn (uNn uLf (uNn (.node none (some [(1,.box [.d kPl]),(2,.box [.d (.pair kI kPP)]),(3,.d kI)]) (uNn uLf (uNn (uNn (uNn uLf (uNn (uNn uLf (uNn (.node none (some [(1,.box [.d kPl]),(2,.box [.d (.pair kI kPP)]),(3,.d kI),(4,.d kI),(5,.d kI)]) (uNn uLf (uNn (uNn (uNn (.node (some [(1,.box [.d kPl]),(2,.box [.d (.pair kI kPP)]),(3,.d kI),(4,.d kI),(5,.d kI),(44,.d .bool)]) none uLf uLf) (.node (some [(1,.box [.d kPl]),(2,.box [.d (.pair kI kPP)]),(3,.d kI),(4,.d kI),(5,.d kI)]) none uLf uLf)) uLf) uLf)) uLf) uLf)) (uNn (.node (some [(1,.box [.d kPl]),(2,.box [.d (.pair kI kPP)]),(3,.d kI),(52,.d .bool)]) none uLf uLf) uLf))) uLf) uLf)) uLf) uLf)) (uNn uLf (uNn (uNn uLf (uNn (.node none (some [(1,.box [.d kPl]),(2,.box [.d (.pair kI kPP)]),(6,.d kI)]) uLf uLf) uLf)) (uNn uLf (uNn (uNn uLf (uNn (.node none (some [(1,.box [.d kPl]),(2,.box [.d (.pair kI kPP)]),(9,.d kLP),(10,.d kI)]) (uNn uLf (uNn (uNn (uNn uLf (uNn (uNn uLf (uNn (.node none (some [(1,.box [.d kPl]),(2,.box [.d (.pair kI kPP)]),(9,.d kLP),(10,.d kI),(11,.d .bool),(12,.d kI)]) (uNn uLf (uNn (uNn (.node (some [(1,.box [.d kPl]),(2,.box [.d (.pair kI kPP)]),(9,.d kLP),(10,.d kI),(11,.d .bool),(12,.d kI)]) none uLf uLf) uLf) uLf)) uLf) uLf)) (uNn (.node (some [(1,.box [.d kPl]),(2,.box [.d (.pair kI kPP)]),(9,.d kLP),(10,.d kI),(140,.d .bool)]) none uLf uLf) uLf))) uLf) uLf)) uLf) uLf)) uLf)))))
def JC (k : Nat) (ZZ : LPt → LPt → (List Int) → Option PPt) (qR : TPl → Option LPt) (z8 : LPt → LPt → Int → PPt → Option Int) (a0 : TPl) : Option (Int × PPt) :=
 zw (α := (TPl × ((Int × PPt) × Int))) (fun (x1, x2, x3) next0 =>
 bif decide (x3 < (x1.1.length : Int)) then
 zw (α := (TPl × ((Int × PPt) × (Int × PPt)))) (fun (x5, x6, x7, x8, x9) next4 =>
 bif decide (x9 < (x5.2.1.length : Int)) then
 zx (α := (TPl × ((Int × PPt) × (Int × (Int × (Int × Bool)))))) (fun (y10, y11, y12, y13, y14, y15) =>
 zx (α := (TPl × ((Int × PPt) × (Int × PPt)))) (fun (y16, y17, y18, y19, y20) =>
 next4 ((y16.1, y16.2.1, y16.2.2), (y17.1, y17.2.1, y17.2.2), y18, y19, w64 (y20 + 1))) fun j21 =>
 bif y15 then
 j21 ((y10.1, y10.2.1, y10.2.2), (y11.1, y11.2.1, y11.2.2), y12, w64 (y13 + 1), y14)
 else
 j21 ((y10.1, y10.2.1, y10.2.2), (y11.1, y11.2.1, y11.2.2), y12, y13, y14)) fun j22 =>
 gd (inb x9 x5.2.1.length) <|
 bif decide ((rdD (0, 0) x5.2.1 x9).1 = x7) then
 j22 ((x5.1, x5.2.1, x5.2.2), (x6.1, x6.2.1, x6.2.2), x7, x8, x9, true)
 else
 gd (inb x9 x5.2.1.length) <|
 j22 ((x5.1, x5.2.1, x5.2.2), (x6.1, x6.2.1, x6.2.2), x7, x8, x9, decide ((rdD (0, 0) x5.2.1 x9).2 = x7))
 else
 zx (α := (TPl × ((Int × PPt) × (Int × Bool)))) (fun (y23, y24, y25, y26) =>
 bif y26 then
 some (5, y25, 0)
 else
 next0 ((y23.1, y23.2.1, y23.2.2), (y24.1, y24.2.1, y24.2.2), w64 (y25 + 1))) fun j27 =>
 bif !(decide (x8 = 0)) then
 j27 ((x5.1, x5.2.1, x5.2.2), (x6.1, x6.2.1, x6.2.2), x7, !(decide (x8 = 2)))
 else
 j27 ((x5.1, x5.2.1, x5.2.2), (x6.1, x6.2.1, x6.2.2), x7, false)) k ((x1.1, x1.2.1, x1.2.2), (x2.1, x2.2.1, x2.2.2), x3, 0, 0)
 else
 bif decide ((x1.2.1.length : Int) = 0) then
 some (6, 0, 0)
 else
 zw (α := (TPl × ((Int × PPt) × Int))) (fun (x29, x30, x31) next28 =>
 bif decide (x31 < (x29.2.2.length : Int)) then
 gd (inb x31 x29.2.2.length) <|
 gd (inb x31 x29.2.2.length) <|
 bnd (ZZ x29.1 x29.2.1 [(rdD (0, 0) x29.2.2 x31).1, (rdD (0, 0) x29.2.2 x31).2]) fun r32 =>
 bif !(decide (r32.1 = 1)) then
 some (7, x31, 0)
 else
 next28 ((x29.1, x29.2.1, x29.2.2), (x30.1, x30.2.1, x30.2.2), w64 (x31 + 1))
 else
 bnd (qR (x29.1, x29.2.1, x29.2.2)) fun r33 =>
 zw (α := (TPl × ((Int × PPt) × (LPt × Int)))) (fun (x35, x36, x37, x38) next34 =>
 bif decide (x38 < (x35.1.length : Int)) then
 zw (α := (TPl × ((Int × PPt) × (LPt × (Int × (Bool × Int)))))) (fun (x40, x41, x42, x43, x44, x45) next39 =>
 bif decide (x45 < (x42.length : Int)) then
 zx (α := (TPl × ((Int × PPt) × (LPt × (Int × (Bool × Int)))))) (fun (y46, y47, y48, y49, y50, y51) =>
 next39 ((y46.1, y46.2.1, y46.2.2), (y47.1, y47.2.1, y47.2.2), y48, y49, y50, w64 (y51 + 1))) fun j52 =>
 bif x44 then
 j52 ((x40.1, x40.2.1, x40.2.2), (x41.1, x41.2.1, x41.2.2), x42, x43, true, x45)
 else
 gd (inb x45 x42.length) <|
 bif decide ((rdD (0, 0) x42 x45).1 = x43) then
 j52 ((x40.1, x40.2.1, x40.2.2), (x41.1, x41.2.1, x41.2.2), x42, x43, true, x45)
 else
 gd (inb x45 x42.length) <|
 j52 ((x40.1, x40.2.1, x40.2.2), (x41.1, x41.2.1, x41.2.2), x42, x43, decide ((rdD (0, 0) x42 x45).2 = x43), x45)
 else
 zx (α := (TPl × ((Int × PPt) × (LPt × (Int × Bool))))) (fun (y53, y54, y55, y56, y57) =>
 bif y57 then
 some (8, y56, 0)
 else
 next34 ((y53.1, y53.2.1, y53.2.2), (y54.1, y54.2.1, y54.2.2), y55, w64 (y56 + 1))) fun j58 =>
 bif !x44 then
 gd (inb x43 x40.1.length) <|
 bnd (z8 x40.1 x40.2.1 1 ((rdD (0, 0) x40.1 x43).1, (rdD (0, 0) x40.1 x43).2)) fun r59 =>
 j58 ((x40.1, x40.2.1, x40.2.2), (x41.1, x41.2.1, x41.2.2), x42, x43, !(decide (r59 = 1)))
 else
 j58 ((x40.1, x40.2.1, x40.2.2), (x41.1, x41.2.1, x41.2.2), x42, x43, false)) k ((x35.1, x35.2.1, x35.2.2), (x36.1, x36.2.1, x36.2.2), x37, x38, false, 0)
 else
 some (0, 0, 0)) k ((x29.1, x29.2.1, x29.2.2), (x30.1, x30.2.1, x30.2.2), r33, 0)) k ((x1.1, x1.2.1, x1.2.2), (x2.1, x2.2.1, x2.2.2), 0)) k ((a0.1, a0.2.1, a0.2.2), (0, 0, 0), 0)
theorem zdY (k:Nat) (ZZ:LPt→LPt→(List Int)→Option PPt) (qR:TPl→Option LPt) (z8:LPt→LPt→Int→PPt→Option Int) (a0:TPl):zN [⟨37,[.d kLP,.d kLP,.d (.sl kI)],[kI,kI],fun x=>ZZ (x.1) (x.2.1) (x.2.2),none⟩,⟨27,[.d kPl],[.sl kPP],fun x=>qR x,none⟩,⟨80,[.d kLP,.d kLP,.d kI,.d kPP],[kI],fun x=>z8 (x.1) (x.2.1) (x.2.2.1) (x.2.2.2),none⟩] tb k Tryz.f96 YJ [.d kPl] [.pair kI kPP] a0=JC k ZZ qR z8 a0:=by kernel_rfl
def jt (k:Nat) (a0:TPl):Option (Int×PPt):=JC k (jk k) (qI k) (qx k) a0
theorem zbx (k:Nat):zv Tryz.prog 96 [.d kPl] [.pair kI kPP] (fun x=>jt k x):=fun x y h=>zh zO mix (zo.cons (ze.of rfl (zbd k)) (zo.cons (ze.of rfl (Yl k)) (zo.cons (ze.of rfl (QE k)) (zo.nil _)))) Tryz.func96 (N:=k) (an:=YJ) (by kernel_rfl) x y ((zdY k (jk k) (qI k) (qx k) x).trans h)
def YO:Ann:=uNn uLf (uNn uLf (uNn uLf (uNn uLf (uNn (uNn uLf (.node (some [(2,.box [.d (.pair kI kPP)]),(5,.box [.d (.pair kI kPP)])]) none uLf uLf)) uLf))))
def Qm (k : Nat) (Qg : TPl → Option Int) (Qb : TPl → Option (Int × PPt)) (Qs : TPl → Option (Int × PPt)) (a0 : TPl) : Option ((Int × PPt) × Int) :=
 bnd (Qg (a0.1, a0.2.1, a0.2.2)) fun r0 =>
 bif !(decide (r0 = 0)) then
 some ((0, 0, 0), 2)
 else
 bnd (Qb (a0.1, a0.2.1, a0.2.2)) fun r1 =>
 zx (α := ((Int × PPt) × (Int × PPt))) (fun (y2, y3, y4, y5) =>
 some ((y3, y4, y5), 0)) fun j6 =>
 bif decide (r1.1 = 0) then
 bnd (Qs (a0.1, a0.2.1, a0.2.2)) fun r7 =>
 j6 ((0, 0, 0), r7.1, r7.2.1, r7.2.2)
 else
 j6 ((0, 0, 0), r1.1, r1.2.1, r1.2.2)
theorem zdX (k:Nat) (Qg:TPl→Option Int) (Qb:TPl→Option (Int×PPt)) (Qs:TPl→Option (Int×PPt)) (a0:TPl):zN [⟨94,[.d kPl],[kI],fun x=>Qg x,none⟩,⟨95,[.d kPl],[.pair kI kPP],fun x=>Qb x,none⟩,⟨96,[.d kPl],[.pair kI kPP],fun x=>Qs x,none⟩] tb k Tryz.f59 YO [.d kPl] [.pair kI kPP,kI] a0=Qm k Qg Qb Qs a0:=by kernel_rfl
def qF (k:Nat) (a0:TPl):Option ((Int×PPt)×Int):=Qm k (qP k) (ju k) (jt k) a0
theorem zbV (k:Nat):zv Tryz.prog 59 [.d kPl] [.pair kI kPP,kI] (fun x=>qF k x):=fun x y h=>zh zO mix (zo.cons (ze.of rfl (zb3 k)) (zo.cons (ze.of rfl (zbN k)) (zo.cons (ze.of rfl (zbx k)) (zo.nil _)))) Tryz.func59 (N:=k) (an:=YO) (by kernel_rfl) x y ((zdX k (qP k) (ju k) (jt k) x).trans h)
def YU:Ann:=uNn uLf (uNn uLf (uNn (.node (some [(2,.d .bool)]) none uLf uLf) uLf))
def Qk (k : Nat) (Qi : TPl → Option ((Int × PPt) × Int)) (a0 : TPl) : Option Bool :=
 bnd (Qi (a0.1, a0.2.1, a0.2.2)) fun r0 =>
 zx (α := Bool) (fun y1 =>
 some y1) fun j2 =>
 bif decide (r0.2 = 0) then
 j2 (decide (r0.1.1 = 0))
 else
 j2 false
theorem zd7 (k:Nat) (Qi:TPl→Option ((Int×PPt)×Int)) (a0:TPl):zN [⟨59,[.d kPl],[.pair kI kPP,kI],fun x=>Qi x,none⟩] tb k Tryz.f20 YU [.d kPl] [.bool] a0=Qk k Qi a0:=by kernel_rfl
def qB (k:Nat) (a0:TPl):Option Bool:=Qk k (qF k) a0
theorem zbR (k:Nat):zv Tryz.prog 20 [.d kPl] [.bool] (fun x=>qB k x):=fun x y h=>zh zO mix (zo.cons (ze.of rfl (zbV k)) (zo.nil _)) Tryz.func20 (N:=k) (an:=YU) (by kernel_rfl) x y ((zd7 k (qF k) x).trans h)
end
end Go.Proofs.YtpkkcjmblocjdaaGreat.AM
