/- The functions, by their texts: written by a program. -/
import Derived.Test.YtpkkcjmblocjdaaGreatGa5
import Derived.Test.YtpkkcjmblocjdaaGreatCln
set_option linter.unusedVariables false
set_option linter.unusedSimpArgs false
set_option linter.unusedSectionVars false
set_option maxRecDepth 100000
namespace Go.Proofs.YtpkkcjmblocjdaaGreat.AM
open Go.RowKit Go.Proofs
noncomputable section
def Xz:Ann:=uNn uLf (uNn (.node (some [(2,.d .bool)]) none uLf uLf) uLf)
def jg (k : Nat) (a0 : TPl) : Option Bool :=
 zx (α := Bool) (fun y0 =>
 some y0) fun j1 =>
 bif decide ((a0.1.length : Int) > 24) then
 bif decide ((a0.1.length : Int) ≤ 200) then
 j1 true
 else
 bif decide ((a0.2.1.length : Int) > 60) then
 bif decide ((a0.2.1.length : Int) ≤ 400) then
 j1 true
 else
 bif decide ((a0.2.2.length : Int) > 60) then
 bif decide ((a0.2.2.length : Int) ≤ 400) then
 j1 true
 else
 bif decide ((a0.1.length : Int) > 300) then
 j1 true
 else
 bif decide ((a0.2.1.length : Int) > 500) then
 j1 true
 else
 j1 (decide ((a0.2.2.length : Int) > 500))
 else
 bif decide ((a0.1.length : Int) > 300) then
 j1 true
 else
 bif decide ((a0.2.1.length : Int) > 500) then
 j1 true
 else
 j1 (decide ((a0.2.2.length : Int) > 500))
 else
 bif decide ((a0.2.2.length : Int) > 60) then
 bif decide ((a0.2.2.length : Int) ≤ 400) then
 j1 true
 else
 bif decide ((a0.1.length : Int) > 300) then
 j1 true
 else
 bif decide ((a0.2.1.length : Int) > 500) then
 j1 true
 else
 j1 (decide ((a0.2.2.length : Int) > 500))
 else
 bif decide ((a0.1.length : Int) > 300) then
 j1 true
 else
 bif decide ((a0.2.1.length : Int) > 500) then
 j1 true
 else
 j1 (decide ((a0.2.2.length : Int) > 500))
 else
 bif decide ((a0.2.1.length : Int) > 60) then
 bif decide ((a0.2.1.length : Int) ≤ 400) then
 j1 true
 else
 bif decide ((a0.2.2.length : Int) > 60) then
 bif decide ((a0.2.2.length : Int) ≤ 400) then
 j1 true
 else
 bif decide ((a0.1.length : Int) > 300) then
 j1 true
 else
 bif decide ((a0.2.1.length : Int) > 500) then
 j1 true
 else
 j1 (decide ((a0.2.2.length : Int) > 500))
 else
 bif decide ((a0.1.length : Int) > 300) then
 j1 true
 else
 bif decide ((a0.2.1.length : Int) > 500) then
 j1 true
 else
 j1 (decide ((a0.2.2.length : Int) > 500))
 else
 bif decide ((a0.2.2.length : Int) > 60) then
 bif decide ((a0.2.2.length : Int) ≤ 400) then
 j1 true
 else
 bif decide ((a0.1.length : Int) > 300) then
 j1 true
 else
 bif decide ((a0.2.1.length : Int) > 500) then
 j1 true
 else
 j1 (decide ((a0.2.2.length : Int) > 500))
 else
 bif decide ((a0.1.length : Int) > 300) then
 j1 true
 else
 bif decide ((a0.2.1.length : Int) > 500) then
 j1 true
 else
 j1 (decide ((a0.2.2.length : Int) > 500))
theorem zeV (k:Nat) (a0:TPl):zN [] tb k Tryz.f10 Xz [.d kPl] [.bool] a0=jg k a0:=by kernel_rfl
theorem zck (k:Nat):zv Tryz.prog 10 [.d kPl] [.bool] (fun x=>jg k x):=fun x y h=>zh zO mix (zo.nil _) Tryz.func10 (N:=k) (an:=Xz) (by kernel_rfl) x y ((zeV k x).trans h)
def YC:Ann:=uNn uLf (uNn uLf (uNn (uNn (.node (some [(1,.box [.d kPl]),(3,.d kI),(23,.d .bool)]) none uLf uLf) uLf) (uNn (uNn uLf (uNn (.node none (some [(1,.box [.d kPl]),(3,.d kI),(4,.d kI)]) (uNn uLf (uNn (uNn (uNn (.node (some [(1,.box [.d kPl]),(3,.d kI),(4,.d kI),(62,.d .bool)]) none uLf uLf) uLf) uLf) uLf)) uLf) uLf)) (uNn (uNn uLf (uNn (.node none (some [(1,.box [.d kPl]),(3,.d kI),(5,.d kI)]) (uNn uLf (uNn (uNn (uNn uLf (uNn (uNn uLf (.node (some [(1,.box [.d kPl]),(3,.d kI),(5,.d kI),(6,.box [.d kPP])]) none uLf uLf)) (uNn (.node (some [(1,.box [.d kPl]),(3,.d kI),(5,.d kI),(113,.d .bool)]) none uLf uLf) uLf))) uLf) uLf)) uLf) uLf)) uLf))))
def qP (k : Nat) (a0 : TPl) : Option Int :=
 zx (α := (TPl × (Int × Bool))) (fun (y0, y1, y2) =>
 bif y2 then
 some 2
 else
 zw (α := (TPl × PPt)) (fun (x4, x5, x6) next3 =>
 bif decide (x6 < x5) then
 zx (α := (TPl × (Int × (Int × Bool)))) (fun (y7, y8, y9, y10) =>
 bif y10 then
 some 2
 else
 next3 ((y7.1, y7.2.1, y7.2.2), y8, w64 (y9 + 1))) fun j11 =>
 gd (inb x6 x4.1.length) <|
 bif decide ((rdD (0, 0) x4.1 x6).1 > 1048576) then
 j11 ((x4.1, x4.2.1, x4.2.2), x5, x6, true)
 else
 gd (inb x6 x4.1.length) <|
 bif decide ((rdD (0, 0) x4.1 x6).1 < (-1048576)) then
 j11 ((x4.1, x4.2.1, x4.2.2), x5, x6, true)
 else
 gd (inb x6 x4.1.length) <|
 bif decide ((rdD (0, 0) x4.1 x6).2 > 1048576) then
 j11 ((x4.1, x4.2.1, x4.2.2), x5, x6, true)
 else
 gd (inb x6 x4.1.length) <|
 j11 ((x4.1, x4.2.1, x4.2.2), x5, x6, decide ((rdD (0, 0) x4.1 x6).2 < (-1048576)))
 else
 zw (α := (TPl × PPt)) (fun (x13, x14, x15) next12 =>
 bif decide (x15 < (w64 ((x13.2.1.length : Int) + (x13.2.2.length : Int)))) then
 zx (α := (TPl × (Int × (Int × PPt)))) (fun (y16, y17, y18, y19, y20) =>
 zx (α := (TPl × (Int × (Int × Bool)))) (fun (y21, y22, y23, y24) =>
 bif y24 then
 some 2
 else
 next12 ((y21.1, y21.2.1, y21.2.2), y22, w64 (y23 + 1))) fun j25 =>
 bif decide (y19 < 0) then
 j25 ((y16.1, y16.2.1, y16.2.2), y17, y18, true)
 else
 bif decide (y19 ≥ y17) then
 j25 ((y16.1, y16.2.1, y16.2.2), y17, y18, true)
 else
 bif decide (y20 < 0) then
 j25 ((y16.1, y16.2.1, y16.2.2), y17, y18, true)
 else
 j25 ((y16.1, y16.2.1, y16.2.2), y17, y18, decide (y20 ≥ y17))) fun j26 =>
 bif decide (x15 < (x13.2.1.length : Int)) then
 gd (inb x15 x13.2.1.length) <|
 j26 ((x13.1, x13.2.1, x13.2.2), x14, x15, (rdD (0, 0) x13.2.1 x15).1, (rdD (0, 0) x13.2.1 x15).2)
 else
 gd (inb (w64 (x15 - (x13.2.1.length : Int))) x13.2.2.length) <|
 j26 ((x13.1, x13.2.1, x13.2.2), x14, x15, (rdD (0, 0) x13.2.2 (w64 (x15 - (x13.2.1.length : Int)))).1, (rdD (0, 0) x13.2.2 (w64 (x15 - (x13.2.1.length : Int)))).2)
 else
 some 0) k ((x4.1, x4.2.1, x4.2.2), x5, 0)) k ((y0.1, y0.2.1, y0.2.2), y1, 0)) fun j27 =>
 bif decide ((a0.1.length : Int) > 200) then
 j27 ((a0.1, a0.2.1, a0.2.2), (a0.1.length : Int), true)
 else
 bif decide ((a0.2.1.length : Int) > 400) then
 j27 ((a0.1, a0.2.1, a0.2.2), (a0.1.length : Int), true)
 else
 j27 ((a0.1, a0.2.1, a0.2.2), (a0.1.length : Int), decide ((a0.2.2.length : Int) > 400))
theorem zd4 (k:Nat) (a0:TPl):zN [] tb k Tryz.f94 YC [.d kPl] [kI] a0=qP k a0:=by kernel_rfl
theorem zb3 (k:Nat):zv Tryz.prog 94 [.d kPl] [kI] (fun x=>qP k x):=fun x y h=>zh zO mix (zo.nil _) Tryz.func94 (N:=k) (an:=YC) (by kernel_rfl) x y ((zd4 k x).trans h)
def X3:Ann:=uLf
def qI (k : Nat) (a0 : TPl) : Option LPt :=
 gd (few a0.2.1.length) <|
 gd (few (a0.2.1.length + a0.2.2.length)) <|
 some (a0.2.1 ++ a0.2.2)
theorem zf1 (k:Nat) (a0:TPl):zN [] tb k Tryz.f27 X3 [.d kPl] [.sl kPP] a0=qI k a0:=by kernel_rfl
theorem Yl (k:Nat):zv Tryz.prog 27 [.d kPl] [.sl kPP] (fun x=>qI k x):=fun x y h=>zh zO mix (zo.nil _) Tryz.func27 (N:=k) (an:=X3) (by kernel_rfl) x y ((zf1 k x).trans h)
def zaT:Ann:=uNn uLf (uNn uLf (uNn (.node (some [(6,.d .bool)]) none uLf uLf) uLf))
def Yv (k : Nat) (zH : Int → Option (Bool × (List Int))) (zF : (Bool × (List Int)) → (Bool × (List Int)) → Option (Bool × (List Int))) (zz : (Bool × (List Int)) → (Bool × (List Int)) → Option (Bool × (List Int))) (zp : PPt → Option Bool) (qg : PPt → PPt → PPt → Option Int) (zQ : (Bool × (List Int)) → Option Int) (a0 : PPt) (a1 : PPt) (a2 : PPt) : Option Bool :=
 bnd (zH (w64 (a2.1 - a0.1))) fun r0 =>
 bnd (zH (w64 (a1.1 - a2.1))) fun r1 =>
 bnd (zF (r0.1, r0.2) (r1.1, r1.2)) fun r2 =>
 bnd (zH (w64 (a2.2 - a0.2))) fun r3 =>
 bnd (zH (w64 (a1.2 - a2.2))) fun r4 =>
 bnd (zF (r3.1, r3.2) (r4.1, r4.2)) fun r5 =>
 bnd (zz (r2.1, r2.2) (r5.1, r5.2)) fun r6 =>
 zx (α := Bool) (fun y7 =>
 some y7) fun j8 =>
 bif !((decide (a0.1 = a1.1)) && (decide (a0.2 = a1.2))) then
 bnd (zp (a0.1, a0.2)) fun r9 =>
 bif r9 then
 bnd (zp (a1.1, a1.2)) fun r10 =>
 bif r10 then
 bnd (zp (a2.1, a2.2)) fun r11 =>
 bif r11 then
 bnd (qg (a0.1, a0.2) (a1.1, a1.2) (a2.1, a2.2)) fun r12 =>
 bif decide (r12 = 0) then
 bnd (zQ (r6.1, r6.2)) fun r13 =>
 j8 (decide (r13 ≥ 0))
 else
 j8 false
 else
 j8 false
 else
 j8 false
 else
 j8 false
 else
 j8 false
theorem zgx (k:Nat) (zH:Int→Option (Bool×(List Int))) (zF:(Bool×(List Int))→(Bool×(List Int))→Option (Bool×(List Int))) (zz:(Bool×(List Int))→(Bool×(List Int))→Option (Bool×(List Int))) (zp:PPt→Option Bool) (qg:PPt→PPt→PPt→Option Int) (zQ:(Bool×(List Int))→Option Int) (a0:PPt) (a1:PPt) (a2:PPt):zN [⟨102,[.d kI],[.pair .bool (.sl kI)],fun x=>zH x,none⟩,⟨103,[.d (.pair .bool (.sl kI)),.d (.pair .bool (.sl kI))],[.pair .bool (.sl kI)],fun x=>zF (x.1) (x.2),none⟩,⟨64,[.d (.pair .bool (.sl kI)),.d (.pair .bool (.sl kI))],[.pair .bool (.sl kI)],fun x=>zz (x.1) (x.2),none⟩,⟨72,[.d kPP],[.bool],fun x=>zp x,none⟩,⟨73,[.d kPP,.d kPP,.d kPP],[kI],fun x=>qg (x.1) (x.2.1) (x.2.2),none⟩,⟨67,[.d (.pair .bool (.sl kI))],[kI],fun x=>zQ x,none⟩] tb k Tryz.f74 zaT [.d kPP,.d kPP,.d kPP] [.bool] (a0,a1,a2)=Yv k zH zF zz zp qg zQ a0 a1 a2:=by kernel_rfl
def qY (k:Nat) (a0:PPt) (a1:PPt) (a2:PPt):Option Bool:=Yv k (zJ k) (zK k) (zD k) (zX k) (qX k) (zW k) a0 a1 a2
theorem Jo (k:Nat):zv Tryz.prog 74 [.d kPP,.d kPP,.d kPP] [.bool] (fun x=>qY k (x.1) (x.2.1) (x.2.2)):=fun x y h=>zh zO mix (zo.cons (ze.of rfl (QC k)) (zo.cons (ze.of rfl (Zt k)) (zo.cons (ze.of rfl (jE k)) (zo.cons (ze.of rfl (jy k)) (zo.cons (ze.of rfl (Kg k)) (zo.cons (ze.of rfl (ZA k)) (zo.nil _))))))) Tryz.func74 (N:=k) (an:=zaT) (by kernel_rfl) x y ((zgx k (zJ k) (zK k) (zD k) (zX k) (qX k) (zW k) (x.1) (x.2.1) (x.2.2)).trans h)
def XH:Ann:=uNn uLf (uNn (uNn (.node (some [(4,.box [.d kPP]),(5,.box [.d kPP]),(6,.box [.d kPP]),(7,.box [.d kPP]),(40,.d .bool)]) none uLf uLf) uLf) (uNn uLf (uNn uLf (uNn (uNn (.node (some [(4,.box [.d kPP]),(5,.box [.d kPP]),(6,.box [.d kPP]),(7,.box [.d kPP]),(10,.d kI),(11,.d kI),(54,.d .bool)]) none uLf uLf) (uNn (uNn uLf (uNn (uNn uLf (.node (some [(4,.box [.d kPP]),(5,.box [.d kPP]),(6,.box [.d kPP]),(7,.box [.d kPP]),(12,.d kI)]) none uLf uLf)) (uNn (uNn uLf (.node (some [(4,.box [.d kPP]),(5,.box [.d kPP]),(6,.box [.d kPP]),(7,.box [.d kPP]),(12,.d kI)]) none uLf uLf)) (uNn (uNn (.node (some [(5,.box [.d kPP]),(6,.box [.d kPP]),(7,.box [.d kPP]),(12,.d kI),(80,.d .bool)]) none uLf uLf) (.node (some [(5,.box [.d kPP]),(6,.box [.d kPP]),(7,.box [.d kPP]),(12,.d kI)]) none uLf uLf)) (uNn (uNn (.node (some [(12,.d kI),(96,.d .bool)]) none uLf uLf) (.node (some [(12,.d kI)]) none uLf uLf)) uLf))))) uLf)) (uNn (uNn (.node (some [(4,.box [.d kPP]),(5,.box [.d kPP]),(6,.box [.d kPP]),(7,.box [.d kPP]),(10,.d kI),(11,.d kI),(120,.d .bool)]) none uLf uLf) uLf) (uNn (uNn (.node (some [(4,.box [.d kPP]),(5,.box [.d kPP]),(6,.box [.d kPP]),(7,.box [.d kPP]),(10,.d kI),(11,.d kI),(142,.d .bool)]) none uLf uLf) uLf) (uNn (uNn (.node (some [(156,.d .bool)]) none uLf uLf) uLf) uLf)))))))
def Kk (k : Nat) (zp : PPt → Option Bool) (qg : PPt → PPt → PPt → Option Int) (zS : PPt → PPt → PPt → Option Bool) (a0 : PPt) (a1 : PPt) (a2 : PPt) (a3 : PPt) : Option PPt :=
 zx (α := (PPt × (PPt × (PPt × (PPt × Bool))))) (fun (y0, y1, y2, y3, y4) =>
 bif y4 then
 some (0, 2)
 else
 bnd (qg (y0.1, y0.2) (y1.1, y1.2) (y2.1, y2.2)) fun r5 =>
 bnd (qg (y0.1, y0.2) (y1.1, y1.2) (y3.1, y3.2)) fun r6 =>
 zx (α := (PPt × (PPt × (PPt × (PPt × (Int × (Int × Bool))))))) (fun (y7, y8, y9, y10, y11, y12, y13) =>
 bif y13 then
 bnd (zS (y7.1, y7.2) (y8.1, y8.2) (y9.1, y9.2)) fun r14 =>
 zx (α := (PPt × (PPt × (PPt × (PPt × Int))))) (fun (y15, y16, y17, y18, y19) =>
 bnd (zS (y15.1, y15.2) (y16.1, y16.2) (y18.1, y18.2)) fun r20 =>
 zx (α := (PPt × (PPt × (PPt × (PPt × Int))))) (fun (y21, y22, y23, y24, y25) =>
 zx (α := (PPt × (PPt × (PPt × (Int × Bool))))) (fun (y26, y27, y28, y29, y30) =>
 zx (α := (PPt × (PPt × (PPt × Int)))) (fun (y31, y32, y33, y34) =>
 zx (α := (Int × Bool)) (fun (y35, y36) =>
 zx (α := Int) (fun y37 =>
 bif decide (y37 ≥ 2) then
 some (4, 0)
 else
 bif decide (y37 = 1) then
 some (1, 0)
 else
 some (0, 0)) fun j38 =>
 bif y36 then
 j38 (w64 (y35 + 1))
 else
 j38 y35) fun j39 =>
 bnd (zS (y32.1, y32.2) (y33.1, y33.2) (y31.1, y31.2)) fun r40 =>
 bif r40 then
 bif !((decide (y31.1 = y32.1)) && (decide (y31.2 = y32.2))) then
 j39 (y34, !((decide (y31.1 = y33.1)) && (decide (y31.2 = y33.2))))
 else
 j39 (y34, false)
 else
 j39 (y34, false)) fun j41 =>
 bif y30 then
 j41 ((y26.1, y26.2), (y27.1, y27.2), (y28.1, y28.2), w64 (y29 + 1))
 else
 j41 ((y26.1, y26.2), (y27.1, y27.2), (y28.1, y28.2), y29)) fun j42 =>
 bnd (zS (y23.1, y23.2) (y24.1, y24.2) (y21.1, y21.2)) fun r43 =>
 bif r43 then
 bif !((decide (y21.1 = y23.1)) && (decide (y21.2 = y23.2))) then
 j42 ((y22.1, y22.2), (y23.1, y23.2), (y24.1, y24.2), y25, !((decide (y21.1 = y24.1)) && (decide (y21.2 = y24.2))))
 else
 j42 ((y22.1, y22.2), (y23.1, y23.2), (y24.1, y24.2), y25, false)
 else
 j42 ((y22.1, y22.2), (y23.1, y23.2), (y24.1, y24.2), y25, false)) fun j44 =>
 bif r20 then
 j44 ((y15.1, y15.2), (y16.1, y16.2), (y17.1, y17.2), (y18.1, y18.2), w64 (y19 + 1))
 else
 j44 ((y15.1, y15.2), (y16.1, y16.2), (y17.1, y17.2), (y18.1, y18.2), y19)) fun j45 =>
 bif r14 then
 j45 ((y7.1, y7.2), (y8.1, y8.2), (y9.1, y9.2), (y10.1, y10.2), 1)
 else
 j45 ((y7.1, y7.2), (y8.1, y8.2), (y9.1, y9.2), (y10.1, y10.2), 0)
 else
 zx (α := (PPt × (PPt × (PPt × (PPt × (Int × (Int × Bool))))))) (fun (y46, y47, y48, y49, y50, y51, y52) =>
 bif y52 then
 some (1, 0)
 else
 zx (α := (PPt × (PPt × (PPt × (PPt × (Int × (Int × Bool))))))) (fun (y53, y54, y55, y56, y57, y58, y59) =>
 bif y59 then
 some (2, 0)
 else
 zx (α := Bool) (fun y60 =>
 bif y60 then
 some (3, 0)
 else
 some (0, 0)) fun j61 =>
 bif !(decide (y57 = y58)) then
 bnd (qg (y55.1, y55.2) (y56.1, y56.2) (y53.1, y53.2)) fun r62 =>
 bnd (qg (y55.1, y55.2) (y56.1, y56.2) (y54.1, y54.2)) fun r63 =>
 j61 (!(decide (r62 = r63)))
 else
 j61 false) fun j64 =>
 bnd (zS (y46.1, y46.2) (y47.1, y47.2) (y48.1, y48.2)) fun r65 =>
 bif r65 then
 j64 ((y46.1, y46.2), (y47.1, y47.2), (y48.1, y48.2), (y49.1, y49.2), y50, y51, true)
 else
 bnd (zS (y46.1, y46.2) (y47.1, y47.2) (y49.1, y49.2)) fun r66 =>
 bif r66 then
 j64 ((y46.1, y46.2), (y47.1, y47.2), (y48.1, y48.2), (y49.1, y49.2), y50, y51, true)
 else
 bnd (zS (y48.1, y48.2) (y49.1, y49.2) (y46.1, y46.2)) fun r67 =>
 bif r67 then
 j64 ((y46.1, y46.2), (y47.1, y47.2), (y48.1, y48.2), (y49.1, y49.2), y50, y51, true)
 else
 bnd (zS (y48.1, y48.2) (y49.1, y49.2) (y47.1, y47.2)) fun r68 =>
 j64 ((y46.1, y46.2), (y47.1, y47.2), (y48.1, y48.2), (y49.1, y49.2), y50, y51, r68)) fun j69 =>
 bif (decide (y7.1 = y9.1)) && (decide (y7.2 = y9.2)) then
 j69 ((y7.1, y7.2), (y8.1, y8.2), (y9.1, y9.2), (y10.1, y10.2), y11, y12, true)
 else
 bif (decide (y7.1 = y10.1)) && (decide (y7.2 = y10.2)) then
 j69 ((y7.1, y7.2), (y8.1, y8.2), (y9.1, y9.2), (y10.1, y10.2), y11, y12, true)
 else
 bif (decide (y8.1 = y9.1)) && (decide (y8.2 = y9.2)) then
 j69 ((y7.1, y7.2), (y8.1, y8.2), (y9.1, y9.2), (y10.1, y10.2), y11, y12, true)
 else
 j69 ((y7.1, y7.2), (y8.1, y8.2), (y9.1, y9.2), (y10.1, y10.2), y11, y12, (decide (y8.1 = y10.1)) && (decide (y8.2 = y10.2)))) fun j70 =>
 bif decide (r5 = 0) then
 j70 ((y0.1, y0.2), (y1.1, y1.2), (y2.1, y2.2), (y3.1, y3.2), r5, r6, decide (r6 = 0))
 else
 j70 ((y0.1, y0.2), (y1.1, y1.2), (y2.1, y2.2), (y3.1, y3.2), r5, r6, false)) fun j71 =>
 bif (decide (a0.1 = a1.1)) && (decide (a0.2 = a1.2)) then
 j71 ((a0.1, a0.2), (a1.1, a1.2), (a2.1, a2.2), (a3.1, a3.2), true)
 else
 bif (decide (a2.1 = a3.1)) && (decide (a2.2 = a3.2)) then
 j71 ((a0.1, a0.2), (a1.1, a1.2), (a2.1, a2.2), (a3.1, a3.2), true)
 else
 bnd (zp (a0.1, a0.2)) fun r72 =>
 bif !r72 then
 j71 ((a0.1, a0.2), (a1.1, a1.2), (a2.1, a2.2), (a3.1, a3.2), true)
 else
 bnd (zp (a1.1, a1.2)) fun r73 =>
 bif !r73 then
 j71 ((a0.1, a0.2), (a1.1, a1.2), (a2.1, a2.2), (a3.1, a3.2), true)
 else
 bnd (zp (a2.1, a2.2)) fun r74 =>
 bif !r74 then
 j71 ((a0.1, a0.2), (a1.1, a1.2), (a2.1, a2.2), (a3.1, a3.2), true)
 else
 bnd (zp (a3.1, a3.2)) fun r75 =>
 j71 ((a0.1, a0.2), (a1.1, a1.2), (a2.1, a2.2), (a3.1, a3.2), !r75)
theorem zfp (k:Nat) (zp:PPt→Option Bool) (qg:PPt→PPt→PPt→Option Int) (zS:PPt→PPt→PPt→Option Bool) (a0:PPt) (a1:PPt) (a2:PPt) (a3:PPt):zN [⟨72,[.d kPP],[.bool],fun x=>zp x,none⟩,⟨73,[.d kPP,.d kPP,.d kPP],[kI],fun x=>qg (x.1) (x.2.1) (x.2.2),none⟩,⟨74,[.d kPP,.d kPP,.d kPP],[.bool],fun x=>zS (x.1) (x.2.1) (x.2.2),none⟩] tb k Tryz.f32 XH [.d kPP,.d kPP,.d kPP,.d kPP] [kI,kI] (a0,a1,a2,a3)=Kk k zp qg zS a0 a1 a2 a3:=by kernel_rfl
def jQ (k:Nat) (a0:PPt) (a1:PPt) (a2:PPt) (a3:PPt):Option PPt:=Kk k (zX k) (qX k) (qY k) a0 a1 a2 a3
theorem zcQ (k:Nat):zv Tryz.prog 32 [.d kPP,.d kPP,.d kPP,.d kPP] [kI,kI] (fun x=>jQ k (x.1) (x.2.1) (x.2.2.1) (x.2.2.2)):=fun x y h=>zh zO mix (zo.cons (ze.of rfl (jy k)) (zo.cons (ze.of rfl (Kg k)) (zo.cons (ze.of rfl (Jo k)) (zo.nil _)))) Tryz.func32 (N:=k) (an:=XH) (by kernel_rfl) x y ((zfp k (zX k) (qX k) (qY k) (x.1) (x.2.1) (x.2.2.1) (x.2.2.2)).trans h)
def Yh:Ann:=uNn uLf (uNn (.node (some [(6,.d .bool)]) none uLf uLf) uLf)
def Jn (k : Nat) (zS : PPt → PPt → PPt → Option Bool) (a0 : PPt) (a1 : PPt) (a2 : PPt) : Option Bool :=
 zx (α := Bool) (fun y0 =>
 some y0) fun j1 =>
 bnd (zS (a0.1, a0.2) (a1.1, a1.2) (a2.1, a2.2)) fun r2 =>
 bif r2 then
 bif !((decide (a2.1 = a0.1)) && (decide (a2.2 = a0.2))) then
 j1 (!((decide (a2.1 = a1.1)) && (decide (a2.2 = a1.2))))
 else
 j1 false
 else
 j1 false
theorem zdA (k:Nat) (zS:PPt→PPt→PPt→Option Bool) (a0:PPt) (a1:PPt) (a2:PPt):zN [⟨74,[.d kPP,.d kPP,.d kPP],[.bool],fun x=>zS (x.1) (x.2.1) (x.2.2),none⟩] tb k Tryz.f38 Yh [.d kPP,.d kPP,.d kPP] [.bool] (a0,a1,a2)=Jn k zS a0 a1 a2:=by kernel_rfl
def jj (k:Nat) (a0:PPt) (a1:PPt) (a2:PPt):Option Bool:=Jn k (qY k) a0 a1 a2
theorem zbc (k:Nat):zv Tryz.prog 38 [.d kPP,.d kPP,.d kPP] [.bool] (fun x=>jj k (x.1) (x.2.1) (x.2.2)):=fun x y h=>zh zO mix (zo.cons (ze.of rfl (Jo k)) (zo.nil _)) Tryz.func38 (N:=k) (an:=Yh) (by kernel_rfl) x y ((zdA k (qY k) (x.1) (x.2.1) (x.2.2)).trans h)
def YT:Ann:=uNn uLf (uNn (uNn uLf (uNn (.node none (some [(1,.box [.d kPl]),(2,.box [.d (.pair kI kPP)]),(3,.d kI)]) (uNn uLf (uNn (uNn (uNn uLf (uNn (.node none (some [(1,.box [.d kPl]),(2,.box [.d (.pair kI kPP)]),(3,.d kI),(4,.d kI)]) uLf uLf) uLf)) uLf) uLf)) uLf) uLf)) (uNn uLf (uNn (uNn uLf (uNn (.node none (some [(1,.box [.d kPl]),(2,.box [.d (.pair kI kPP)]),(5,.d kLP),(6,.d kI)]) uLf uLf) uLf)) (uNn (uNn uLf (uNn (.node none (some [(1,.box [.d kPl]),(2,.box [.d (.pair kI kPP)]),(5,.d kLP),(7,.d kI)]) (uNn uLf (uNn (uNn (uNn uLf (uNn (.node none (some [(1,.box [.d kPl]),(2,.box [.d (.pair kI kPP)]),(5,.d kLP),(7,.d kI),(8,.d kI)]) uLf uLf) uLf)) uLf) uLf)) uLf) uLf)) (uNn (uNn uLf (uNn (.node none (some [(1,.box [.d kPl]),(2,.box [.d (.pair kI kPP)]),(5,.d kLP),(11,.d kI)]) (uNn uLf (uNn (uNn (uNn uLf (uNn (.node none (some [(1,.box [.d kPl]),(2,.box [.d (.pair kI kPP)]),(5,.d kLP),(11,.d kI),(12,.d kI)]) uLf uLf) uLf)) uLf) uLf)) uLf) uLf)) uLf)))))
def JY (k : Nat) (qR : TPl → Option LPt) (QG : PPt → PPt → PPt → PPt → Option PPt) (ZY : PPt → PPt → PPt → Option Bool) (a0 : TPl) : Option (Int × PPt) :=
 zw (α := (TPl × ((Int × PPt) × Int))) (fun (x1, x2, x3) next0 =>
 bif decide (x3 < (x1.1.length : Int)) then
 zw (α := (TPl × ((Int × PPt) × PPt))) (fun (x5, x6, x7, x8) next4 =>
 bif decide (x8 < (x5.1.length : Int)) then
 gd (inb x7 x5.1.length) <|
 gd (inb x8 x5.1.length) <|
 bif (decide ((rdD (0, 0) x5.1 x7).1 = (rdD (0, 0) x5.1 x8).1)) && (decide ((rdD (0, 0) x5.1 x7).2 = (rdD (0, 0) x5.1 x8).2)) then
 some (1, x7, x8)
 else
 next4 ((x5.1, x5.2.1, x5.2.2), (x6.1, x6.2.1, x6.2.2), x7, w64 (x8 + 1))
 else
 next0 ((x5.1, x5.2.1, x5.2.2), (x6.1, x6.2.1, x6.2.2), w64 (x7 + 1))) k ((x1.1, x1.2.1, x1.2.2), (x2.1, x2.2.1, x2.2.2), x3, w64 (x3 + 1))
 else
 bnd (qR (x1.1, x1.2.1, x1.2.2)) fun r9 =>
 zw (α := (TPl × ((Int × PPt) × (LPt × Int)))) (fun (x11, x12, x13, x14) next10 =>
 bif decide (x14 < (x13.length : Int)) then
 gd (inb x14 x13.length) <|
 gd (inb x14 x13.length) <|
 bif decide ((rdD (0, 0) x13 x14).1 = (rdD (0, 0) x13 x14).2) then
 some (2, x14, 0)
 else
 next10 ((x11.1, x11.2.1, x11.2.2), (x12.1, x12.2.1, x12.2.2), x13, w64 (x14 + 1))
 else
 zw (α := (TPl × ((Int × PPt) × (LPt × Int)))) (fun (x16, x17, x18, x19) next15 =>
 bif decide (x19 < (x18.length : Int)) then
 zw (α := (TPl × ((Int × PPt) × (LPt × PPt)))) (fun (x21, x22, x23, x24, x25) next20 =>
 bif decide (x25 < (x23.length : Int)) then
 gd (inb x24 x23.length) <|
 gd (inb (rdD (0, 0) x23 x24).1 x21.1.length) <|
 gd (inb x24 x23.length) <|
 gd (inb (rdD (0, 0) x23 x24).2 x21.1.length) <|
 gd (inb x25 x23.length) <|
 gd (inb (rdD (0, 0) x23 x25).1 x21.1.length) <|
 gd (inb x25 x23.length) <|
 gd (inb (rdD (0, 0) x23 x25).2 x21.1.length) <|
 bnd (QG ((rdD (0, 0) x21.1 (rdD (0, 0) x23 x24).1).1, (rdD (0, 0) x21.1 (rdD (0, 0) x23 x24).1).2) ((rdD (0, 0) x21.1 (rdD (0, 0) x23 x24).2).1, (rdD (0, 0) x21.1 (rdD (0, 0) x23 x24).2).2) ((rdD (0, 0) x21.1 (rdD (0, 0) x23 x25).1).1, (rdD (0, 0) x21.1 (rdD (0, 0) x23 x25).1).2) ((rdD (0, 0) x21.1 (rdD (0, 0) x23 x25).2).1, (rdD (0, 0) x21.1 (rdD (0, 0) x23 x25).2).2)) fun r26 =>
 bif decide (r26.1 > 1) then
 some (3, x24, x25)
 else
 next20 ((x21.1, x21.2.1, x21.2.2), (x22.1, x22.2.1, x22.2.2), x23, x24, w64 (x25 + 1))
 else
 next15 ((x21.1, x21.2.1, x21.2.2), (x22.1, x22.2.1, x22.2.2), x23, w64 (x24 + 1))) k ((x16.1, x16.2.1, x16.2.2), (x17.1, x17.2.1, x17.2.2), x18, x19, w64 (x19 + 1))
 else
 zw (α := (TPl × ((Int × PPt) × (LPt × Int)))) (fun (x28, x29, x30, x31) next27 =>
 bif decide (x31 < (x28.1.length : Int)) then
 zw (α := (TPl × ((Int × PPt) × (LPt × PPt)))) (fun (x33, x34, x35, x36, x37) next32 =>
 bif decide (x37 < (x35.length : Int)) then
 gd (inb x37 x35.length) <|
 gd (inb (rdD (0, 0) x35 x37).1 x33.1.length) <|
 gd (inb x37 x35.length) <|
 gd (inb (rdD (0, 0) x35 x37).2 x33.1.length) <|
 gd (inb x36 x33.1.length) <|
 bnd (ZY ((rdD (0, 0) x33.1 (rdD (0, 0) x35 x37).1).1, (rdD (0, 0) x33.1 (rdD (0, 0) x35 x37).1).2) ((rdD (0, 0) x33.1 (rdD (0, 0) x35 x37).2).1, (rdD (0, 0) x33.1 (rdD (0, 0) x35 x37).2).2) ((rdD (0, 0) x33.1 x36).1, (rdD (0, 0) x33.1 x36).2)) fun r38 =>
 bif r38 then
 some (4, x36, x37)
 else
 next32 ((x33.1, x33.2.1, x33.2.2), (x34.1, x34.2.1, x34.2.2), x35, x36, w64 (x37 + 1))
 else
 next27 ((x33.1, x33.2.1, x33.2.2), (x34.1, x34.2.1, x34.2.2), x35, w64 (x36 + 1))) k ((x28.1, x28.2.1, x28.2.2), (x29.1, x29.2.1, x29.2.2), x30, x31, 0)
 else
 some (0, 0, 0)) k ((x16.1, x16.2.1, x16.2.2), (x17.1, x17.2.1, x17.2.2), x18, 0)) k ((x11.1, x11.2.1, x11.2.2), (x12.1, x12.2.1, x12.2.2), x13, 0)) k ((x1.1, x1.2.1, x1.2.2), (x2.1, x2.2.1, x2.2.2), r9, 0)) k ((a0.1, a0.2.1, a0.2.2), (0, 0, 0), 0)
theorem zd2 (k:Nat) (qR:TPl→Option LPt) (QG:PPt→PPt→PPt→PPt→Option PPt) (ZY:PPt→PPt→PPt→Option Bool) (a0:TPl):zN [⟨27,[.d kPl],[.sl kPP],fun x=>qR x,none⟩,⟨32,[.d kPP,.d kPP,.d kPP,.d kPP],[kI,kI],fun x=>QG (x.1) (x.2.1) (x.2.2.1) (x.2.2.2),none⟩,⟨38,[.d kPP,.d kPP,.d kPP],[.bool],fun x=>ZY (x.1) (x.2.1) (x.2.2),none⟩] tb k Tryz.f95 YT [.d kPl] [.pair kI kPP] a0=JY k qR QG ZY a0:=by kernel_rfl
def ju (k:Nat) (a0:TPl):Option (Int×PPt):=JY k (qI k) (jQ k) (jj k) a0
theorem zbN (k:Nat):zv Tryz.prog 95 [.d kPl] [.pair kI kPP] (fun x=>ju k x):=fun x y h=>zh zO mix (zo.cons (ze.of rfl (Yl k)) (zo.cons (ze.of rfl (zcQ k)) (zo.cons (ze.of rfl (zbc k)) (zo.nil _)))) Tryz.func95 (N:=k) (an:=YT) (by kernel_rfl) x y ((zd2 k (qI k) (jQ k) (jj k) x).trans h)
end
end Go.Proofs.YtpkkcjmblocjdaaGreat.AM
