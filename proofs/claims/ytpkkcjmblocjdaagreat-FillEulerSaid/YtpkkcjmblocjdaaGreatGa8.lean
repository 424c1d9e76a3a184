/- The functions, by their texts: written by a program. -/
import Derived.Test.YtpkkcjmblocjdaaGreatGa7
import Derived.Test.YtpkkcjmblocjdaaGreatCln
set_option linter.unusedVariables false
set_option linter.unusedSimpArgs false
set_option linter.unusedSectionVars false
set_option maxRecDepth 100000
namespace Go.Proofs.YtpkkcjmblocjdaaGreat.AM
open Go.RowKit Go.Proofs
noncomputable section
def K1:Ann:=uNn uLf (uNn (uNn (.node (some [(0,.d kI),(1,.d kLP),(15,.d .bool)]) none uLf uLf) uLf) (uNn (uNn uLf (uNn (.node none (some [(0,.d kI),(1,.d kLP),(6,.d kI)]) (uNn uLf (uNn (uNn (uNn uLf (uNn (.node (some [(0,.d kI),(1,.d kLP),(6,.d kI),(52,.d .bool)]) none uLf uLf) uLf)) uLf) uLf)) uLf) uLf)) (uNn uLf (uNn (uNn uLf (uNn (.node none (some [(1,.d kLP),(8,.row kI 3),(9,.d kI)]) uLf uLf) uLf)) uLf))))
def jd (k : Nat) (a0 : Int) (a1 : LPt) : Option ((List Int) × Int) :=
 zx (α := (Int × (LPt × Bool))) (fun (y0, y1, y2) =>
 bif y2 then
 some ([], 2)
 else
 zw (α := (Int × (LPt × Int))) (fun (x4, x5, x6) next3 =>
 bif decide (x6 < (x5.length : Int)) then
 gd (inb x6 x5.length) <|
 zx (α := (Int × (LPt × (Int × Bool)))) (fun (y7, y8, y9, y10) =>
 bif y10 then
 some ([], 2)
 else
 next3 (y7, y8, w64 (y9 + 1))) fun j11 =>
 bif decide ((rdD (0, 0) x5 x6).1 = (rdD (0, 0) x5 x6).2) then
 j11 (x4, x5, x6, true)
 else
 bif decide ((rdD (0, 0) x5 x6).1 < 0) then
 j11 (x4, x5, x6, true)
 else
 bif decide ((rdD (0, 0) x5 x6).1 ≥ x4) then
 j11 (x4, x5, x6, true)
 else
 bif decide ((rdD (0, 0) x5 x6).2 < 0) then
 j11 (x4, x5, x6, true)
 else
 j11 (x4, x5, x6, decide ((rdD (0, 0) x5 x6).2 ≥ x4))
 else
 gd (decide (0 ≤ x4)) <|
 gd (zfY x4) <|
 zw (α := (LPt × ((List Int) × Int))) (fun (x13, x14, x15) next12 =>
 bif decide (x15 < (x13.length : Int)) then
 gd (inb x15 x13.length) <|
 gd (inb (rdD (0, 0) x13 x15).1 x14.length) <|
 gd (inb (rdD (0, 0) x13 x15).1 x14.length) <|
 gd (inb x15 x13.length) <|
 gd (inb (rdD (0, 0) x13 x15).2 x14.length) <|
 gd (inb (rdD (0, 0) x13 x15).2 x14.length) <|
 next12 (x13, stL (stL x14 (rdD (0, 0) x13 x15).1 (w64 ((rdD 0 x14 (rdD (0, 0) x13 x15).1) + 1))) (rdD (0, 0) x13 x15).2 (w64 ((rdD 0 (stL x14 (rdD (0, 0) x13 x15).1 (w64 ((rdD 0 x14 (rdD (0, 0) x13 x15).1) + 1))) (rdD (0, 0) x13 x15).2) + 1)), w64 (x15 + 1))
 else
 some (x14, 0)) k (x5, rpL x4 0, 0)) k (y0, y1, 0)) fun j16 =>
 bif decide (a0 < 0) then
 j16 (a0, a1, true)
 else
 j16 (a0, a1, decide (a0 > 1048576))
theorem zcE (k:Nat) (a0:Int) (a1:LPt):zN [] tb k Tryz.f75 K1 [.d kI,.d kLP] [.sl kI,kI] (a0,a1)=jd k a0 a1:=by kernel_rfl
theorem zaG (k:Nat):zv Tryz.prog 75 [.d kI,.d kLP] [.sl kI,kI] (fun x=>jd k (x.1) (x.2)):=fun x y h=>zh zO mix (zo.nil _) Tryz.func75 (N:=k) (an:=K1) (by kernel_rfl) x y ((zcE k (x.1) (x.2)).trans h)
def Xy:Ann:=uNn uLf (uNn (.node (some [(4,.d .bool)]) none uLf uLf) uLf)
def jS (k : Nat) (a0 : PPt) (a1 : PPt) : Option Bool :=
 zx (α := Bool) (fun y0 =>
 some y0) fun j1 =>
 bif decide (a0.1 = a1.1) then
 bif decide (a0.2 = a1.2) then
 j1 true
 else
 bif decide (a0.1 = a1.2) then
 j1 (decide (a0.2 = a1.1))
 else
 j1 false
 else
 bif decide (a0.1 = a1.2) then
 j1 (decide (a0.2 = a1.1))
 else
 j1 false
theorem zfd (k:Nat) (a0:PPt) (a1:PPt):zN [] tb k Tryz.f76 Xy [.d kPP,.d kPP] [.bool] (a0,a1)=jS k a0 a1:=by kernel_rfl
theorem zcA (k:Nat):zv Tryz.prog 76 [.d kPP,.d kPP] [.bool] (fun x=>jS k (x.1) (x.2)):=fun x y h=>zh zO mix (zo.nil _) Tryz.func76 (N:=k) (an:=Xy) (by kernel_rfl) x y ((zfd k (x.1) (x.2)).trans h)
def Yr:Ann:=uNn uLf (uNn uLf (uNn (uNn uLf (uNn (.node none (some [(0,.d kLP),(1,.d kI),(2,.d (.sl kI)),(7,.d kI),(8,.d kI)]) (uNn uLf (uNn (uNn (uNn uLf (uNn (uNn uLf (.node (some [(0,.d kLP),(1,.d kI),(2,.d (.sl kI)),(7,.d kI),(8,.d kI),(9,.d kI)]) none uLf uLf)) (uNn (uNn uLf (.node (some [(0,.d kLP),(1,.d kI),(2,.d (.sl kI)),(7,.d kI),(8,.d kI),(9,.d kI)]) none uLf uLf)) (uNn (uNn uLf (uNn (.node none (some [(0,.d kLP),(1,.d kI),(2,.d (.sl kI)),(7,.d kI),(8,.d kI),(9,.d kI),(10,.d kI)]) (uNn uLf (uNn (uNn (uNn uLf (.node (some [(0,.d kLP),(1,.d kI),(2,.d (.sl kI)),(7,.d kI),(8,.d kI),(9,.d kI),(10,.d kI)]) none uLf uLf)) uLf) uLf)) uLf) uLf)) (uNn (.node (some [(0,.d kLP),(1,.d kI),(2,.d (.sl kI)),(7,.d kI),(8,.d kI),(9,.d kI),(63,.d .bool)]) none uLf uLf) (.node (some [(0,.d kLP),(1,.d kI),(2,.d (.sl kI)),(7,.d kI),(8,.d kI)]) none uLf uLf)))))) uLf) uLf)) uLf) uLf)) uLf))
def jl (k : Nat) (a0 : LPt) (a1 : Int) (a2 : (List Int)) : Option Int :=
 zw (α := (LPt × (Int × ((List Int) × PPt)))) (fun (x1, x2, x3, x4, x5) next0 =>
 bif decide (x5 < (x1.length : Int)) then
 gd (inb x5 x1.length) <|
 zx (α := (LPt × (Int × ((List Int) × (Int × PPt))))) (fun (y6, y7, y8, y9, y10, y11) =>
 gd (inb y10 y6.length) <|
 zx (α := (LPt × (Int × ((List Int) × (Int × PPt))))) (fun (y12, y13, y14, y15, y16, y17) =>
 zw (α := (LPt × (Int × ((List Int) × (Int × (Int × PPt)))))) (fun (x19, x20, x21, x22, x23, x24, x25) next18 =>
 bif decide (x25 < (x21.length : Int)) then
 gd (inb x25 x21.length) <|
 zx (α := (LPt × (Int × ((List Int) × (Int × (Int × PPt)))))) (fun (y26, y27, y28, y29, y30, y31, y32) =>
 next18 (y26, y27, y28, y29, y30, y31, w64 (y32 + 1))) fun j33 =>
 bif decide ((rdD 0 x21 x25) = x24) then
 j33 (x19, x20, x21, x22, x23, (-1), x25)
 else
 j33 (x19, x20, x21, x22, x23, x24, x25)
 else
 zx (α := (LPt × (Int × ((List Int) × (Int × (Int × (Int × Bool))))))) (fun (y34, y35, y36, y37, y38, y39, y40) =>
 zx (α := (LPt × (Int × ((List Int) × PPt)))) (fun (y41, y42, y43, y44, y45) =>
 next0 (y41, y42, y43, y44, w64 (y45 + 1))) fun j46 =>
 bif y40 then
 j46 (y34, y35, y36, y39, y38)
 else
 j46 (y34, y35, y36, y37, y38)) fun j47 =>
 bif decide (x24 ≥ 0) then
 bif decide (x22 < 0) then
 j47 (x19, x20, x21, x22, x23, x24, true)
 else
 j47 (x19, x20, x21, x22, x23, x24, decide (x24 < x22))
 else
 j47 (x19, x20, x21, x22, x23, x24, false)) k (y12, y13, y14, y15, y16, y17, 0)) fun j48 =>
 bif decide ((rdD (0, 0) y6 y10).2 = y7) then
 gd (inb y10 y6.length) <|
 j48 (y6, y7, y8, y9, y10, (rdD (0, 0) y6 y10).1)
 else
 j48 (y6, y7, y8, y9, y10, y11)) fun j49 =>
 bif decide ((rdD (0, 0) x1 x5).1 = x2) then
 gd (inb x5 x1.length) <|
 j49 (x1, x2, x3, x4, x5, (rdD (0, 0) x1 x5).2)
 else
 j49 (x1, x2, x3, x4, x5, (-1))
 else
 some x4) k (a0, a1, a2, (-1), 0)
theorem zcZ (k:Nat) (a0:LPt) (a1:Int) (a2:(List Int)):zN [] tb k Tryz.f77 Yr [.d kLP,.d kI,.d (.sl kI)] [kI] (a0,a1,a2)=jl k a0 a1 a2:=by kernel_rfl
theorem zbf (k:Nat):zv Tryz.prog 77 [.d kLP,.d kI,.d (.sl kI)] [kI] (fun x=>jl k (x.1) (x.2.1) (x.2.2)):=fun x y h=>zh zO mix (zo.nil _) Tryz.func77 (N:=k) (an:=Yr) (by kernel_rfl) x y ((zcZ k (x.1) (x.2.1) (x.2.2)).trans h)
def YI:Ann:=uNn uLf (uNn uLf (uNn uLf (uNn (uNn uLf (uNn (.node none (some [(0,.d kI),(1,.d kLP),(7,.d (.sl kI)),(9,.d kI)]) (uNn uLf (uNn (uNn (uNn uLf (uNn (.node none (some [(0,.d kI),(1,.d kLP),(7,.d (.sl kI)),(9,.d kI),(10,.d kI)]) uLf uLf) uLf)) uLf) uLf)) uLf) uLf)) (uNn (uNn uLf (uNn (.node none (some [(0,.d kI),(1,.d kLP),(7,.d (.sl kI)),(11,.d kI)]) (uNn uLf (uNn (uNn (uNn (.node (some [(0,.d kI),(1,.d kLP),(7,.d (.sl kI)),(11,.d kI),(65,.d .bool)]) none uLf uLf) uLf) uLf) uLf)) uLf) uLf)) (uNn uLf (uNn uLf (uNn (uNn uLf (uNn (.node none (some [(0,.d kI),(1,.d kLP),(7,.d (.sl kI)),(12,.row (.sl kI) 49),(13,.row kI 3),(14,.d kI)]) (uNn uLf (uNn (.node (some [(0,.d kI),(1,.d kLP),(7,.d (.sl kI)),(12,.row (.sl kI) 49),(13,.row kI 3),(14,.d kI)]) none (uNn uLf (uNn (uNn uLf (uNn (.node none (some [(0,.d kI),(1,.d kLP),(7,.d (.sl kI)),(12,.row (.sl kI) 49),(13,.row kI 3),(14,.d kI),(15,.d .bool),(16,.d kI)]) (uNn uLf (uNn (uNn (.node (some [(0,.d kI),(1,.d kLP),(7,.d (.sl kI)),(12,.row (.sl kI) 49),(13,.row kI 3),(14,.d kI),(15,.d .bool),(16,.d kI)]) none uLf uLf) uLf) uLf)) uLf) uLf)) (uNn uLf (uNn uLf (uNn (uNn (.node none (some [(0,.d kI),(1,.d kLP),(7,.d (.sl kI)),(12,.row (.sl kI) 49),(13,.row kI 3),(14,.d kI),(17,.row kI 3)]) uLf uLf) uLf) uLf))))) uLf) uLf)) uLf) uLf)) uLf)))))))
def JV (k : Nat) (ZH : Int → LPt → Option ((List Int) × Int)) (QJ : PPt → PPt → Option Bool) (Z1 : LPt → Int → (List Int) → Option Int) (a0 : Int) (a1 : LPt) : Option ((List (List Int)) × Int × Int) :=
 bnd (ZH a0 a1) fun r0 =>
 bif !(decide (r0.2 = 0)) then
 some ([], 0, r0.2)
 else
 zw (α := (Int × (LPt × ((List Int) × Int)))) (fun (x2, x3, x4, x5) next1 =>
 bif decide (x5 < (x3.length : Int)) then
 zw (α := (Int × (LPt × ((List Int) × PPt)))) (fun (x7, x8, x9, x10, x11) next6 =>
 bif decide (x11 < x10) then
 gd (inb x10 x8.length) <|
 gd (inb x11 x8.length) <|
 bnd (QJ ((rdD (0, 0) x8 x10).1, (rdD (0, 0) x8 x10).2) ((rdD (0, 0) x8 x11).1, (rdD (0, 0) x8 x11).2)) fun r12 =>
 bif r12 then
 some ([], x10, 80)
 else
 next6 (x7, x8, x9, x10, w64 (x11 + 1))
 else
 next1 (x7, x8, x9, w64 (x10 + 1))) k (x2, x3, x4, x5, 0)
 else
 zw (α := (Int × (LPt × ((List Int) × Int)))) (fun (x14, x15, x16, x17) next13 =>
 bif decide (x17 < x14) then
 zx (α := (Int × (LPt × ((List Int) × (Int × Bool))))) (fun (y18, y19, y20, y21, y22) =>
 bif y22 then
 some ([], y21, 81)
 else
 next13 (y18, y19, y20, w64 (y21 + 1))) fun j23 =>
 gd (inb x17 x16.length) <|
 bif !(decide ((rdD 0 x16 x17) = 0)) then
 gd (inb x17 x16.length) <|
 j23 (x14, x15, x16, x17, !(decide ((rdD 0 x16 x17) = 2)))
 else
 j23 (x14, x15, x16, x17, false)
 else
 zw (α := (Int × (LPt × ((List Int) × ((List (List Int)) × ((List Int) × Int)))))) (fun (x25, x26, x27, x28, x29, x30) next24 =>
 bif decide (x30 < x25) then
 zx (α := (Int × (LPt × ((List Int) × ((List (List Int)) × ((List Int) × Int)))))) (fun (y31, y32, y33, y34, y35, y36) =>
 next24 (y31, y32, y33, y34, y35, w64 (y36 + 1))) fun j37 =>
 gd (inb x30 x27.length) <|
 zw (α := (Int × (LPt × ((List Int) × ((List (List Int)) × ((List Int) × (Int × (Bool × Int)))))))) (fun (x39, x40, x41, x42, x43, x44, x45, x46) next38 =>
 bif decide (x46 < (x43.length : Int)) then
 zx (α := (Int × (LPt × ((List Int) × ((List (List Int)) × ((List Int) × (Int × (Bool × Int)))))))) (fun (y47, y48, y49, y50, y51, y52, y53, y54) =>
 next38 (y47, y48, y49, y50, y51, y52, y53, w64 (y54 + 1))) fun j55 =>
 bif x45 then
 j55 (x39, x40, x41, x42, x43, x44, true, x46)
 else
 gd (inb x46 x43.length) <|
 j55 (x39, x40, x41, x42, x43, x44, decide ((rdD 0 x43 x46) = x44), x46)
 else
 bif x45 then
 j37 (x39, x40, x41, x42, x43, x44)
 else
 zw (α := (Int × (LPt × ((List Int) × ((List (List Int)) × ((List Int) × (Int × (List Int)))))))) (fun (x57, x58, x59, x60, x61, x62, x63) next56 =>
 gd (inb (w64 ((x63.length : Int) - 1)) x63.length) <|
 bnd (Z1 x58 (rdD 0 x63 (w64 ((x63.length : Int) - 1))) x63) fun r64 =>
 bif decide (r64 < 0) then
 gd (few (x60.length + 1)) <|
 gd (few (x61.length + x63.length)) <|
 j37 (x57, x58, x59, x60 ++ [x63], x61 ++ x63, x62)
 else
 gd (few (x63.length + 1)) <|
 next56 (x57, x58, x59, x60, x61, x62, x63 ++ [r64])) k (x39, x40, x41, x42, x43, x44, [x44])) k (x25, x26, x27, x28, x29, x30, decide ((rdD 0 x27 x30) = 0), 0)
 else
 some (x28, 0, 0)) k (x14, x15, x16, [], [], 0)) k (x2, x3, x4, 0)) k (a0, a1, r0.1, 0)
theorem zdT (k:Nat) (ZH:Int→LPt→Option ((List Int)×Int)) (QJ:PPt→PPt→Option Bool) (Z1:LPt→Int→(List Int)→Option Int) (a0:Int) (a1:LPt):zN [⟨75,[.d kI,.d kLP],[.sl kI,kI],fun x=>ZH (x.1) (x.2),none⟩,⟨76,[.d kPP,.d kPP],[.bool],fun x=>QJ (x.1) (x.2),none⟩,⟨77,[.d kLP,.d kI,.d (.sl kI)],[kI],fun x=>Z1 (x.1) (x.2.1) (x.2.2),none⟩] tb k Tryz.f35 YI [.d kI,.d kLP] [.sl (.sl kI),kI,kI] (a0,a1)=JV k ZH QJ Z1 a0 a1:=by kernel_rfl
def jA (k:Nat) (a0:Int) (a1:LPt):Option ((List (List Int))×Int×Int):=JV k (jd k) (jS k) (jl k) a0 a1
theorem zbW (k:Nat):zv Tryz.prog 35 [.d kI,.d kLP] [.sl (.sl kI),kI,kI] (fun x=>jA k (x.1) (x.2)):=fun x y h=>zh zO mix (zo.cons (ze.of rfl (zaG k)) (zo.cons (ze.of rfl (zcA k)) (zo.cons (ze.of rfl (zbf k)) (zo.nil _)))) Tryz.func35 (N:=k) (an:=YI) (by kernel_rfl) x y ((zdT k (jd k) (jS k) (jl k) (x.1) (x.2)).trans h)
def XO:Ann:=uNn uLf (uNn uLf (uNn (uNn uLf (uNn (.node none (some [(0,.d (.sl kI)),(3,.row kPP 60),(4,.d kI)]) (uNn uLf (uNn (uNn (uNn uLf (uNn (uNn uLf (.node (some [(0,.d (.sl kI)),(3,.row kPP 60),(4,.d kI),(5,.d kI)]) none uLf uLf)) uLf)) uLf) uLf)) uLf) uLf)) uLf))
def jT (k : Nat) (a0 : (List Int)) : Option LPt :=
 zw (α := ((List Int) × (LPt × Int))) (fun (x1, x2, x3) next0 =>
 bif decide (x3 < (x1.length : Int)) then
 zx (α := ((List Int) × (LPt × PPt))) (fun (y4, y5, y6, y7) =>
 gd (inb y6 y4.length) <|
 gd (inb y7 y4.length) <|
 gd (few (y5.length + 1)) <|
 next0 (y4, y5 ++ [(rdD 0 y4 y6, rdD 0 y4 y7)], w64 (y6 + 1))) fun j8 =>
 bif decide ((w64 (x3 + 1)) = (x1.length : Int)) then
 j8 (x1, x2, x3, 0)
 else
 j8 (x1, x2, x3, w64 (x3 + 1))
 else
 some x2) k (a0, [], 0)
theorem zeN (k:Nat) (a0:(List Int)):zN [] tb k Tryz.f104 XO [.d (.sl kI)] [.sl kPP] a0=jT k a0:=by kernel_rfl
theorem zch (k:Nat):zv Tryz.prog 104 [.d (.sl kI)] [.sl kPP] (fun x=>jT k x):=fun x y h=>zh zO mix (zo.nil _) Tryz.func104 (N:=k) (an:=XO) (by kernel_rfl) x y ((zeN k x).trans h)
def Xv:Ann:=uNn uLf (uNn (uNn uLf (uNn (.node none (some [(0,.d kLP),(1,.d (.sl (.sl kI))),(6,.d kI)]) (uNn uLf (uNn (uNn (uNn (.node (some [(0,.d kLP),(1,.d (.sl (.sl kI))),(6,.d kI),(32,.d .bool)]) none uLf uLf) uLf) uLf) uLf)) uLf) uLf)) (uNn uLf (uNn (uNn uLf (uNn (.node none (some [(0,.d kLP),(1,.d (.sl (.sl kI))),(7,.row kI 3),(8,.d kI)]) (uNn uLf (uNn (uNn (uNn uLf (uNn (uNn uLf (uNn (.node none (some [(0,.d kLP),(1,.d (.sl (.sl kI))),(7,.row kI 3),(8,.d kI),(9,.d kI),(10,.d kI)]) (uNn uLf (uNn (uNn (uNn (.node (some [(0,.d kLP),(1,.d (.sl (.sl kI))),(7,.row kI 3),(8,.d kI),(9,.d kI),(10,.d kI),(66,.d .bool)]) none uLf uLf) (.node (some [(0,.d kLP),(1,.d (.sl (.sl kI))),(7,.row kI 3),(8,.d kI),(9,.d kI),(10,.d kI)]) none uLf uLf)) uLf) uLf)) uLf) uLf)) uLf)) uLf) uLf)) uLf) uLf)) uLf)))
def Km (k : Nat) (Zu : (List Int) → Option LPt) (qC : LPt → LPt → Int → Option Bool) (z8 : LPt → LPt → Int → PPt → Option Int) (a0 : LPt) (a1 : (List (List Int))) : Option ((List Int) × Int) :=
 zw (α := (LPt × ((List (List Int)) × Int))) (fun (x1, x2, x3) next0 =>
 bif decide (x3 < (x2.length : Int)) then
 zx (α := (LPt × ((List (List Int)) × (Int × Bool)))) (fun (y4, y5, y6, y7) =>
 bif y7 then
 some ([], 2)
 else
 next0 (y4, y5, w64 (y6 + 1))) fun j8 =>
 gd (inb x3 x2.length) <|
 bif decide (((rdD [] x2 x3).length : Int) = 0) then
 j8 (x1, x2, x3, true)
 else
 gd (inb x3 x2.length) <|
 bnd (Zu (rdD [] x2 x3)) fun r9 =>
 bnd (qC x1 r9 1) fun r10 =>
 j8 (x1, x2, x3, !r10)
 else
 zw (α := (LPt × ((List (List Int)) × ((List Int) × Int)))) (fun (x12, x13, x14, x15) next11 =>
 bif decide (x15 < (x13.length : Int)) then
 zw (α := (LPt × ((List (List Int)) × ((List Int) × (Int × PPt))))) (fun (x17, x18, x19, x20, x21, x22) next16 =>
 bif decide (x22 < (x18.length : Int)) then
 zx (α := (LPt × ((List (List Int)) × ((List Int) × (Int × (Int × (Int × Bool))))))) (fun (y23, y24, y25, y26, y27, y28, y29) =>
 zx (α := (LPt × ((List (List Int)) × ((List Int) × (Int × PPt))))) (fun (y30, y31, y32, y33, y34, y35) =>
 next16 (y30, y31, y32, y33, y34, w64 (y35 + 1))) fun j36 =>
 bif y29 then
 j36 (y23, y24, y25, y26, w64 (y27 + 1), y28)
 else
 j36 (y23, y24, y25, y26, y27, y28)) fun j37 =>
 bif !(decide (x22 = x20)) then
 gd (inb x22 x18.length) <|
 bnd (Zu (rdD [] x18 x22)) fun r38 =>
 gd (inb x20 x18.length) <|
 gd (inb 0 (rdD [] x18 x20).length) <|
 gd (inb (rdD 0 (rdD [] x18 x20) 0) x17.length) <|
 bnd (z8 x17 r38 1 ((rdD (0, 0) x17 (rdD 0 (rdD [] x18 x20) 0)).1, (rdD (0, 0) x17 (rdD 0 (rdD [] x18 x20) 0)).2)) fun r39 =>
 j37 (x17, x18, x19, x20, x21, x22, decide (r39 = 1))
 else
 j37 (x17, x18, x19, x20, x21, x22, false)
 else
 gd (few (x19.length + 1)) <|
 next11 (x17, x18, x19 ++ [x21], w64 (x20 + 1))) k (x12, x13, x14, x15, 0, 0)
 else
 some (x14, 0)) k (x1, x2, [], 0)) k (a0, a1, 0)
theorem zet (k:Nat) (Zu:(List Int)→Option LPt) (qC:LPt→LPt→Int→Option Bool) (z8:LPt→LPt→Int→PPt→Option Int) (a0:LPt) (a1:(List (List Int))):zN [⟨104,[.d (.sl kI)],[.sl kPP],fun x=>Zu x,none⟩,⟨79,[.d kLP,.d kLP,.d kI],[.bool],fun x=>qC (x.1) (x.2.1) (x.2.2),none⟩,⟨80,[.d kLP,.d kLP,.d kI,.d kPP],[kI],fun x=>z8 (x.1) (x.2.1) (x.2.2.1) (x.2.2.2),none⟩] tb k Tryz.f78 Xv [.d kLP,.d (.sl (.sl kI))] [.sl kI,kI] (a0,a1)=Km k Zu qC z8 a0 a1:=by kernel_rfl
def jR (k:Nat) (a0:LPt) (a1:(List (List Int))):Option ((List Int)×Int):=Km k (jT k) (q7 k) (qx k) a0 a1
theorem zcO (k:Nat):zv Tryz.prog 78 [.d kLP,.d (.sl (.sl kI))] [.sl kI,kI] (fun x=>jR k (x.1) (x.2)):=fun x y h=>zh zO mix (zo.cons (ze.of rfl (zch k)) (zo.cons (ze.of rfl (Kt k)) (zo.cons (ze.of rfl (QE k)) (zo.nil _)))) Tryz.func78 (N:=k) (an:=Xv) (by kernel_rfl) x y ((zet k (jT k) (q7 k) (qx k) (x.1) (x.2)).trans h)
def XP:Ann:=uLf
def Kj (k : Nat) (QN : LPt → (List (List Int)) → Option ((List Int) × Int)) (a0 : TPl) (a1 : (List (List Int))) : Option (List Int) :=
 bnd (QN a0.1 a1) fun r0 =>
 some r0.1
theorem zeR (k:Nat) (QN:LPt→(List (List Int))→Option ((List Int)×Int)) (a0:TPl) (a1:(List (List Int))):zN [⟨78,[.d kLP,.d (.sl (.sl kI))],[.sl kI,kI],fun x=>QN (x.1) (x.2),none⟩] tb k Tryz.f36 XP [.d kPl,.d (.sl (.sl kI))] [.sl kI] (a0,a1)=Kj k QN a0 a1:=by kernel_rfl
def Zx (k:Nat) (a0:TPl) (a1:(List (List Int))):Option (List Int):=Kj k (jR k) a0 a1
theorem zcH (k:Nat):zv Tryz.prog 36 [.d kPl,.d (.sl (.sl kI))] [.sl kI] (fun x=>Zx k (x.1) (x.2)):=fun x y h=>zh zO mix (zo.cons (ze.of rfl (zcO k)) (zo.nil _)) Tryz.func36 (N:=k) (an:=XP) (by kernel_rfl) x y ((zeR k (jR k) (x.1) (x.2)).trans h)
end
end Go.Proofs.YtpkkcjmblocjdaaGreat.AM
