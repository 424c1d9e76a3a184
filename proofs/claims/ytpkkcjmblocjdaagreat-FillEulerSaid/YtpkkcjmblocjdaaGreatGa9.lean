/- The functions, by their texts: written by a program. -/
import Derived.Test.YtpkkcjmblocjdaaGreatGa8
import Derived.Test.YtpkkcjmblocjdaaGreatCln
set_option linter.unusedVariables false
set_option linter.unusedSimpArgs false
set_option linter.unusedSectionVars false
set_option maxRecDepth 100000
namespace Go.Proofs.YtpkkcjmblocjdaaGreat.AM
open Go.RowKit Go.Proofs
noncomputable section
def X4:Ann:=uNn uLf (uNn uLf (uNn (uNn uLf (uNn (.node none (some [(0,.d (.sl (.sl kI))),(3,.row kPP 60),(4,.d kI)]) (uNn uLf (uNn (uNn (uNn uLf (uNn (.node none (some [(0,.d (.sl (.sl kI))),(3,.row kPP 60),(4,.d kI),(5,.d kI)]) (uNn uLf (uNn (uNn (uNn uLf (uNn (uNn uLf (.node (some [(0,.d (.sl (.sl kI))),(3,.row kPP 60),(4,.d kI),(5,.d kI),(6,.d kI)]) none uLf uLf)) uLf)) uLf) uLf)) uLf) uLf)) uLf) uLf)) uLf) uLf)) uLf))
def qJ (k : Nat) (a0 : (List (List Int))) : Option LPt :=
 zw (α := ((List (List Int)) × (LPt × Int))) (fun (x1, x2, x3) next0 =>
 bif decide (x3 < (x1.length : Int)) then
 zw (α := ((List (List Int)) × (LPt × PPt))) (fun (x5, x6, x7, x8) next4 =>
 gd (inb x7 x5.length) <|
 bif decide (x8 < ((rdD [] x5 x7).length : Int)) then
 gd (inb x7 x5.length) <|
 gd (inb 0 (rdD [] x5 x7).length) <|
 gd (inb x7 x5.length) <|
 zx (α := ((List (List Int)) × (LPt × (Int × PPt)))) (fun (y9, y10, y11, y12, y13) =>
 gd (inb y11 y9.length) <|
 gd (inb y12 (rdD [] y9 y11).length) <|
 gd (few (y10.length + 1)) <|
 next4 (y9, y10 ++ [(rdD 0 (rdD [] y9 y11) y12, y13)], y11, w64 (y12 + 1))) fun j14 =>
 bif decide ((w64 (x8 + 1)) < ((rdD [] x5 x7).length : Int)) then
 gd (inb x7 x5.length) <|
 gd (inb (w64 (x8 + 1)) (rdD [] x5 x7).length) <|
 j14 (x5, x6, x7, x8, rdD 0 (rdD [] x5 x7) (w64 (x8 + 1)))
 else
 j14 (x5, x6, x7, x8, rdD 0 (rdD [] x5 x7) 0)
 else
 next0 (x5, x6, w64 (x7 + 1))) k (x1, x2, x3, 0)
 else
 some x2) k (a0, [], 0)
theorem zfU (k:Nat) (a0:(List (List Int))):zN [] tb k Tryz.f70 X4 [.d (.sl (.sl kI))] [.sl kPP] a0=qJ k a0:=by kernel_rfl
theorem Q4 (k:Nat):zv Tryz.prog 70 [.d (.sl (.sl kI))] [.sl kPP] (fun x=>qJ k x):=fun x y h=>zh zO mix (zo.nil _) Tryz.func70 (N:=k) (an:=X4) (by kernel_rfl) x y ((zfU k x).trans h)
def YK:Ann:=uNn uLf (uNn (uNn (.node (some [(0,.d kI),(1,.d (.sl (.sl kI))),(16,.d .bool)]) none uLf uLf) uLf) (uNn (uNn uLf (uNn (.node none (some [(0,.d kI),(1,.d (.sl (.sl kI))),(5,.d kI)]) (uNn uLf (uNn (uNn (uNn uLf (uNn uLf (uNn (.node none (some [(0,.d kI),(1,.d (.sl (.sl kI))),(5,.d kI),(6,.d kI)]) (uNn uLf (uNn (uNn (uNn (uNn (.node (some [(0,.d kI),(1,.d (.sl (.sl kI))),(5,.d kI),(6,.d kI),(56,.d .bool)]) none uLf uLf) uLf) (uNn uLf (uNn (.node none (some [(0,.d kI),(1,.d (.sl (.sl kI))),(5,.d kI),(6,.d kI),(7,.d kI)]) uLf uLf) uLf))) uLf) uLf)) uLf) uLf))) uLf) uLf)) uLf) uLf)) (uNn uLf (uNn (uNn uLf (uNn (.node none (some [(8,.d kLP),(9,.d kI)]) (uNn uLf (uNn (uNn (uNn uLf (uNn (.node none (some [(8,.d kLP),(9,.d kI),(10,.d kI)]) uLf uLf) uLf)) uLf) uLf)) uLf) uLf)) uLf))))
def JD (k : Nat) (qh : (List (List Int)) → Option LPt) (a0 : Int) (a1 : (List (List Int))) : Option Int :=
 zx (α := (Int × ((List (List Int)) × Bool))) (fun (y0, y1, y2) =>
 bif y2 then
 some 2
 else
 zw (α := (Int × ((List (List Int)) × Int))) (fun (x4, x5, x6) next3 =>
 bif decide (x6 < (x5.length : Int)) then
 gd (inb x6 x5.length) <|
 bif decide (((rdD [] x5 x6).length : Int) < 3) then
 some 2
 else
 zw (α := (Int × ((List (List Int)) × PPt))) (fun (x8, x9, x10, x11) next7 =>
 gd (inb x10 x9.length) <|
 bif decide (x11 < ((rdD [] x9 x10).length : Int)) then
 zx (α := (Int × ((List (List Int)) × (Int × (Int × Bool))))) (fun (y12, y13, y14, y15, y16) =>
 bif y16 then
 some 2
 else
 zw (α := (Int × ((List (List Int)) × (Int × PPt)))) (fun (x18, x19, x20, x21, x22) next17 =>
 bif decide (x22 < x21) then
 gd (inb x20 x19.length) <|
 gd (inb x22 (rdD [] x19 x20).length) <|
 gd (inb x20 x19.length) <|
 gd (inb x21 (rdD [] x19 x20).length) <|
 bif decide ((rdD 0 (rdD [] x19 x20) x22) = (rdD 0 (rdD [] x19 x20) x21)) then
 some 2
 else
 next17 (x18, x19, x20, x21, w64 (x22 + 1))
 else
 next7 (x18, x19, x20, w64 (x21 + 1))) k (y12, y13, y14, y15, 0)) fun j23 =>
 gd (inb x10 x9.length) <|
 gd (inb x11 (rdD [] x9 x10).length) <|
 bif decide ((rdD 0 (rdD [] x9 x10) x11) < 0) then
 j23 (x8, x9, x10, x11, true)
 else
 gd (inb x10 x9.length) <|
 gd (inb x11 (rdD [] x9 x10).length) <|
 j23 (x8, x9, x10, x11, decide ((rdD 0 (rdD [] x9 x10) x11) ≥ x8))
 else
 next3 (x8, x9, w64 (x10 + 1))) k (x4, x5, x6, 0)
 else
 bnd (qh x5) fun r24 =>
 zw (α := (LPt × Int)) (fun (x26, x27) next25 =>
 bif decide (x27 < (x26.length : Int)) then
 zw (α := (LPt × PPt)) (fun (x29, x30, x31) next28 =>
 bif decide (x31 < x30) then
 gd (inb x30 x29.length) <|
 gd (inb x31 x29.length) <|
 bif (decide ((rdD (0, 0) x29 x30).1 = (rdD (0, 0) x29 x31).1)) && (decide ((rdD (0, 0) x29 x30).2 = (rdD (0, 0) x29 x31).2)) then
 some 80
 else
 next28 (x29, x30, w64 (x31 + 1))
 else
 next25 (x29, w64 (x30 + 1))) k (x26, x27, 0)
 else
 some 0) k (r24, 0)) k (y0, y1, 0)) fun j32 =>
 bif decide (a0 < 0) then
 j32 (a0, a1, true)
 else
 j32 (a0, a1, decide (a0 > 1048576))
theorem zed (k:Nat) (qh:(List (List Int))→Option LPt) (a0:Int) (a1:(List (List Int))):zN [⟨70,[.d (.sl (.sl kI))],[.sl kPP],fun x=>qh x,none⟩] tb k Tryz.f69 YK [.d kI,.d (.sl (.sl kI))] [kI] (a0,a1)=JD k qh a0 a1:=by kernel_rfl
def ja (k:Nat) (a0:Int) (a1:(List (List Int))):Option Int:=JD k (qJ k) a0 a1
theorem Kr (k:Nat):zv Tryz.prog 69 [.d kI,.d (.sl (.sl kI))] [kI] (fun x=>ja k (x.1) (x.2)):=fun x y h=>zh zO mix (zo.cons (ze.of rfl (Q4 k)) (zo.nil _)) Tryz.func69 (N:=k) (an:=YK) (by kernel_rfl) x y ((zed k (qJ k) (x.1) (x.2)).trans h)
def XC:Ann:=uNn uLf (uNn (.node (some [(4,.d .bool)]) none uLf uLf) uLf)
def jP (k : Nat) (a0 : PPt) (a1 : PPt) : Option Bool :=
 zx (α := Bool) (fun y0 =>
 some y0) fun j1 =>
 bif decide (a0.1 < a1.1) then
 j1 true
 else
 bif decide (a0.1 = a1.1) then
 j1 (decide (a0.2 < a1.2))
 else
 j1 false
theorem zew (k:Nat) (a0:PPt) (a1:PPt):zN [] tb k Tryz.f71 XC [.d kPP,.d kPP] [.bool] (a0,a1)=jP k a0 a1:=by kernel_rfl
theorem zca (k:Nat):zv Tryz.prog 71 [.d kPP,.d kPP] [.bool] (fun x=>jP k (x.1) (x.2)):=fun x y h=>zh zO mix (zo.nil _) Tryz.func71 (N:=k) (an:=XC) (by kernel_rfl) x y ((zew k (x.1) (x.2)).trans h)
def YG:Ann:=uNn uLf (uNn uLf (uNn uLf (uNn uLf (uNn (uNn uLf (uNn (.node none (some [(3,.row kPP 60),(4,.d kI),(5,.d kLP),(6,.d kI)]) (uNn (uNn (.node (some [(3,.row kPP 60),(4,.d kI),(5,.d kLP),(6,.d kI),(21,.d .bool)]) none uLf uLf) uLf) (uNn (.node (some [(3,.row kPP 60),(4,.d kI),(5,.d kLP),(6,.d kI)]) none (uNn uLf (uNn (uNn uLf (.node (some [(3,.row kPP 60),(4,.d kI),(5,.d kLP),(6,.d kI),(7,.box [.d kPP])]) none uLf uLf)) (uNn uLf (uNn uLf (uNn (uNn (.node none (some [(3,.row kPP 60),(4,.d kI),(5,.d kLP),(6,.d kI),(7,.box [.d kPP]),(8,.row kPP 60),(9,.d kI)]) (uNn (uNn (.node (some [(3,.row kPP 60),(4,.d kI),(5,.d kLP),(6,.d kI),(7,.box [.d kPP]),(8,.row kPP 60),(9,.d kI),(49,.d .bool)]) none uLf uLf) uLf) uLf) uLf) uLf) (uNn (uNn (.node (some [(3,.row kPP 60),(4,.d kI),(5,.d kLP),(6,.d kI),(7,.box [.d kPP]),(8,.row kPP 60),(9,.d kI),(70,.d .bool)]) none uLf uLf) uLf) uLf)))))) uLf) uLf)) uLf) uLf)) uLf))))
def JR (k : Nat) (qD : Int → (List (List Int)) → Option Int) (qh : (List (List Int)) → Option LPt) (QM : PPt → PPt → Option Bool) (a0 : (List (List Int))) : Option LPt :=
 bnd (qD 1048576 a0) fun r0 =>
 bnd (qh a0) fun r1 =>
 zw (α := (LPt × (Int × (LPt × Int)))) (fun (x3, x4, x5, x6) next2 =>
 zx (α := (LPt × (Int × (LPt × (Int × Bool))))) (fun (y7, y8, y9, y10, y11) =>
 bif y11 then
 zx (α := (LPt × (Int × (LPt × Int)))) (fun (y12, y13, y14, y15) =>
 next2 (y12, y13, y14, w64 (y15 + 1))) fun j16 =>
 gd (inb y10 y9.length) <|
 zx (α := (LPt × (Int × (LPt × (Int × PPt))))) (fun (y17, y18, y19, y20, y21, y22) =>
 zw (α := (LPt × (Int × (LPt × (Int × (PPt × (LPt × Int))))))) (fun (x24, x25, x26, x27, x28, x29, x30) next23 =>
 zx (α := (LPt × (Int × (LPt × (Int × (PPt × (LPt × (Int × Bool)))))))) (fun (y31, y32, y33, y34, y35, y36, y37, y38) =>
 bif y38 then
 gd (inb y37 y31.length) <|
 gd (few (y36.length + 1)) <|
 next23 (y31, y32, y33, y34, (y35.1, y35.2), y36 ++ [((rdD (0, 0) y31 y37).1, (rdD (0, 0) y31 y37).2)], w64 (y37 + 1))
 else
 zx (α := (LPt × (Int × (LPt × (Int × (PPt × (LPt × (Int × Bool)))))))) (fun (y39, y40, y41, y42, y43, y44, y45, y46) =>
 bif y46 then
 j16 (y39, y40, y41, y42)
 else
 gd (few (y44.length + 1)) <|
 gd (decide (0 ≤ y45)) <|
 gd (decide (y45 ≤ (y39.length : Int))) <|
 gd (few ((y44 ++ [(y43.1, y43.2)]).length + (dpL y39 y45).length)) <|
 j16 ((y44 ++ [(y43.1, y43.2)]) ++ (dpL y39 y45), y40, y41, y42)) fun j47 =>
 bif decide (y37 < (y31.length : Int)) then
 gd (inb y37 y31.length) <|
 j47 (y31, y32, y33, y34, (y35.1, y35.2), y36, y37, (decide ((rdD (0, 0) y31 y37).1 = y35.1)) && (decide ((rdD (0, 0) y31 y37).2 = y35.2)))
 else
 j47 (y31, y32, y33, y34, (y35.1, y35.2), y36, y37, false)) fun j48 =>
 bif decide (x30 < (x24.length : Int)) then
 gd (inb x30 x24.length) <|
 bnd (QM ((rdD (0, 0) x24 x30).1, (rdD (0, 0) x24 x30).2) (x28.1, x28.2)) fun r49 =>
 j48 (x24, x25, x26, x27, (x28.1, x28.2), x29, x30, r49)
 else
 j48 (x24, x25, x26, x27, (x28.1, x28.2), x29, x30, false)) k (y17, y18, y19, y20, (y21, y22), [], 0)) fun j50 =>
 bif decide ((rdD (0, 0) y9 y10).1 > (rdD (0, 0) y9 y10).2) then
 j50 (y7, y8, y9, y10, (rdD (0, 0) y9 y10).2, (rdD (0, 0) y9 y10).1)
 else
 j50 (y7, y8, y9, y10, (rdD (0, 0) y9 y10).1, (rdD (0, 0) y9 y10).2)
 else
 some y7) fun j51 =>
 bif decide (x6 < (x5.length : Int)) then
 j51 (x3, x4, x5, x6, decide (x4 = 0))
 else
 j51 (x3, x4, x5, x6, false)) k ([], r0, r1, 0)
theorem zeg (k:Nat) (qD:Int→(List (List Int))→Option Int) (qh:(List (List Int))→Option LPt) (QM:PPt→PPt→Option Bool) (a0:(List (List Int))):zN [⟨69,[.d kI,.d (.sl (.sl kI))],[kI],fun x=>qD (x.1) (x.2),none⟩,⟨70,[.d (.sl (.sl kI))],[.sl kPP],fun x=>qh x,none⟩,⟨71,[.d kPP,.d kPP],[.bool],fun x=>QM (x.1) (x.2),none⟩] tb k Tryz.f30 YG [.d (.sl (.sl kI))] [.sl kPP] a0=JR k qD qh QM a0:=by kernel_rfl
def Zh (k:Nat) (a0:(List (List Int))):Option LPt:=JR k (ja k) (qJ k) (jP k) a0
theorem zbP (k:Nat):zv Tryz.prog 30 [.d (.sl (.sl kI))] [.sl kPP] (fun x=>Zh k x):=fun x y h=>zh zO mix (zo.cons (ze.of rfl (Kr k)) (zo.cons (ze.of rfl (Q4 k)) (zo.cons (ze.of rfl (zca k)) (zo.nil _)))) Tryz.func30 (N:=k) (an:=YG) (by kernel_rfl) x y ((zeg k (ja k) (qJ k) (jP k) x).trans h)
def YN:Ann:=uNn uLf (uNn uLf (uNn uLf (uNn uLf (uNn uLf (uNn (uNn uLf (uNn (.node none (some [(0,.d (.sl (.sl kI))),(6,.d kLP),(7,.d kI),(8,.d kI)]) (uNn uLf (uNn (uNn (uNn uLf (uNn (uNn uLf (uNn (.node none (some [(0,.d (.sl (.sl kI))),(6,.d kLP),(7,.d kI),(8,.d kI),(9,.d .bool),(10,.d kI)]) (uNn uLf (uNn (uNn (.node (some [(0,.d (.sl (.sl kI))),(6,.d kLP),(7,.d kI),(8,.d kI),(9,.d .bool),(10,.d kI)]) none uLf uLf) uLf) uLf)) uLf) uLf)) (uNn uLf (.node (some [(0,.d (.sl (.sl kI))),(6,.d kLP),(7,.d kI),(8,.d kI)]) none uLf uLf)))) uLf) uLf)) uLf) uLf)) uLf)))))
def Jy (k : Nat) (qD : Int → (List (List Int)) → Option Int) (qh : (List (List Int)) → Option LPt) (Qq : (List (List Int)) → Option LPt) (a0 : (List (List Int))) : Option (Int × Int × Int) :=
 bnd (qD 1048576 a0) fun r0 =>
 bif !(decide (r0 = 0)) then
 some (0, 0, 0)
 else
 bnd (qh a0) fun r1 =>
 zw (α := ((List (List Int)) × (LPt × PPt))) (fun (x3, x4, x5, x6) next2 =>
 bif decide (x6 < (x4.length : Int)) then
 zw (α := ((List (List Int)) × (LPt × (Int × (Int × (Bool × Int)))))) (fun (x8, x9, x10, x11, x12, x13) next7 =>
 bif decide (x13 < x11) then
 zx (α := ((List (List Int)) × (LPt × (Int × (Int × (Bool × Int)))))) (fun (y14, y15, y16, y17, y18, y19) =>
 next7 (y14, y15, y16, y17, y18, w64 (y19 + 1))) fun j20 =>
 bif x12 then
 gd (inb x13 x9.length) <|
 gd (inb x11 x9.length) <|
 j20 (x8, x9, x10, x11, !(decide ((rdD (0, 0) x9 x13).1 = (rdD (0, 0) x9 x11).1)), x13)
 else
 j20 (x8, x9, x10, x11, false, x13)
 else
 zx (α := ((List (List Int)) × (LPt × PPt))) (fun (y21, y22, y23, y24) =>
 next2 (y21, y22, y23, w64 (y24 + 1))) fun j25 =>
 bif x12 then
 j25 (x8, x9, w64 (x10 + 1), x11)
 else
 j25 (x8, x9, x10, x11)) k (x3, x4, x5, x6, true, 0)
 else
 bnd (Qq x3) fun r26 =>
 some (x5, (r26.length : Int), (x3.length : Int))) k (a0, r1, 0, 0)
theorem zdR (k:Nat) (qD:Int→(List (List Int))→Option Int) (qh:(List (List Int))→Option LPt) (Qq:(List (List Int))→Option LPt) (a0:(List (List Int))):zN [⟨69,[.d kI,.d (.sl (.sl kI))],[kI],fun x=>qD (x.1) (x.2),none⟩,⟨70,[.d (.sl (.sl kI))],[.sl kPP],fun x=>qh x,none⟩,⟨30,[.d (.sl (.sl kI))],[.sl kPP],fun x=>Qq x,none⟩] tb k Tryz.f34 YN [.d (.sl (.sl kI))] [kI,kI,kI] a0=Jy k qD qh Qq a0:=by kernel_rfl
def jz (k:Nat) (a0:(List (List Int))):Option (Int×Int×Int):=Jy k (ja k) (qJ k) (Zh k) a0
theorem zb2 (k:Nat):zv Tryz.prog 34 [.d (.sl (.sl kI))] [kI,kI,kI] (fun x=>jz k x):=fun x y h=>zh zO mix (zo.cons (ze.of rfl (Kr k)) (zo.cons (ze.of rfl (Q4 k)) (zo.cons (ze.of rfl (zbP k)) (zo.nil _)))) Tryz.func34 (N:=k) (an:=YN) (by kernel_rfl) x y ((zdR k (ja k) (qJ k) (Zh k) x).trans h)
def Ke:Ann:=uNn uLf (uNn (uNn (.node (some [(1,.box [.d kPl]),(20,.d .bool)]) none uLf uLf) uLf) (uNn uLf (uNn uLf (uNn uLf (uNn uLf (uNn uLf (uNn uLf (uNn (uNn uLf (uNn (.node none (some [(1,.box [.d kPl]),(5,.d kI),(6,.d kI),(7,.d kI),(11,.d (.sl kI)),(12,.d kI),(13,.d kI)]) (uNn uLf (uNn (uNn (uNn uLf (.node (some [(1,.box [.d kPl]),(5,.d kI),(6,.d kI),(7,.d kI),(11,.d (.sl kI)),(12,.d kI),(13,.d kI)]) none uLf uLf)) uLf) uLf)) uLf) uLf)) (uNn (.node (some [(2,.d .bool)]) none uLf uLf) uLf)))))))))
def QB (k : Nat) (QO : TPl → Option Bool) (Z8 : TPl → Option Bool) (Zg : Option Bool) (ZL : TPl → Option (TMs × Int)) (Qf : LTr → Option (List (List Int))) (Qd : (List (List Int)) → Option (Int × Int × Int)) (Qn : Int → LPt → Option ((List (List Int)) × Int × Int)) (QL : TPl → (List (List Int)) → Option (List Int)) (a0 : TPl) : Option Bool :=
 zx (α := (TPl × Bool)) (fun (y0, y1) =>
 bif y1 then
 bnd (Zg) fun r2 =>
 some r2
 else
 bnd (ZL (y0.1, y0.2.1, y0.2.2)) fun r3 =>
 bif !(decide (r3.2 = 0)) then
 some false
 else
 bnd (Qf r3.1.2.1) fun r4 =>
 bnd (Qd r4) fun r5 =>
 bnd (Qn (y0.1.length : Int) y0.2.1) fun r6 =>
 bnd (QL (y0.1, y0.2.1, y0.2.2) r6.1) fun r7 =>
 zw (α := (TPl × (Int × (Int × (Int × ((List Int) × PPt)))))) (fun (x9, x10, x11, x12, x13, x14, x15) next8 =>
 bif decide (x15 < (x13.length : Int)) then
 gd (inb x15 x13.length) <|
 zx (α := (TPl × (Int × (Int × (Int × ((List Int) × PPt)))))) (fun (y16, y17, y18, y19, y20, y21, y22) =>
 next8 ((y16.1, y16.2.1, y16.2.2), y17, y18, y19, y20, y21, w64 (y22 + 1))) fun j23 =>
 bif decide (((rdD 0 x13 x15).tmod 2) = 0) then
 j23 ((x9.1, x9.2.1, x9.2.2), x10, x11, x12, x13, w64 (x14 + 1), x15)
 else
 j23 ((x9.1, x9.2.1, x9.2.2), x10, x11, x12, x13, w64 (x14 - 1), x15)
 else
 zx (α := Bool) (fun y24 =>
 some y24) fun j25 =>
 bif decide ((w64 ((w64 (x10 - x11)) + x12)) = x14) then
 bif decide (x10 = (x9.1.length : Int)) then
 bnd (Zg) fun r26 =>
 j25 r26
 else
 j25 false
 else
 j25 false) k ((y0.1, y0.2.1, y0.2.2), r5.1, r5.2.1, r5.2.2, r7, 0, 0)) fun j27 =>
 bnd (QO (a0.1, a0.2.1, a0.2.2)) fun r28 =>
 bif r28 then
 j27 ((a0.1, a0.2.1, a0.2.2), true)
 else
 bnd (Z8 (a0.1, a0.2.1, a0.2.2)) fun r29 =>
 j27 ((a0.1, a0.2.1, a0.2.2), !r29)
theorem zba (k:Nat) (QO:TPl→Option Bool) (Z8:TPl→Option Bool) (Zg:Option Bool) (ZL:TPl→Option (TMs×Int)) (Qf:LTr→Option (List (List Int))) (Qd:(List (List Int))→Option (Int×Int×Int)) (Qn:Int→LPt→Option ((List (List Int))×Int×Int)) (QL:TPl→(List (List Int))→Option (List Int)) (a0:TPl):zN [⟨10,[.d kPl],[.bool],fun x=>QO x,none⟩,⟨20,[.d kPl],[.bool],fun x=>Z8 x,none⟩,⟨11,[],[.bool],fun x=>Zg,none⟩,⟨15,[.d kPl],[.pair kLP (.pair (.sl (.pair kI kPP)) kLP),kI],fun x=>ZL x,none⟩,⟨31,[.d (.sl (.pair kI kPP))],[.sl (.sl kI)],fun x=>Qf x,none⟩,⟨34,[.d (.sl (.sl kI))],[kI,kI,kI],fun x=>Qd x,none⟩,⟨35,[.d kI,.d kLP],[.sl (.sl kI),kI,kI],fun x=>Qn (x.1) (x.2),none⟩,⟨36,[.d kPl,.d (.sl (.sl kI))],[.sl kI],fun x=>QL (x.1) (x.2),none⟩] tbx k Tryz.f6 Ke [.d kPl] [.bool] a0=QB k QO Z8 Zg ZL Qf Qd Qn QL a0:=by kernel_rfl
def Zf (k:Nat) (a0:TPl):Option Bool:=QB k (jg k) (qB k) (jB k) (ZN k) (jv k) (jz k) (jA k) (Zx k) a0
theorem XZ (k:Nat):zv Tryz.prog 6 [.d kPl] [.bool] (fun x=>Zf k x):=fun x y h=>zh zu0 mix (zo.cons (ze.of rfl (zck k)) (zo.cons (ze.of rfl (zbR k)) (zo.cons (ze.of rfl (zbS k)) (zo.cons (ze.of rfl (zdH k)) (zo.cons (ze.of rfl (zbJ k)) (zo.cons (ze.of rfl (zb2 k)) (zo.cons (ze.of rfl (zbW k)) (zo.cons (ze.of rfl (zcH k)) (zo.nil _))))))))) Tryz.func6 (N:=k) (an:=Ke) (by kernel_rfl) x y ((zba k (jg k) (qB k) (jB k) (ZN k) (jv k) (jz k) (jA k) (Zx k) x).trans h)
end
end Go.Proofs.YtpkkcjmblocjdaaGreat.AM
