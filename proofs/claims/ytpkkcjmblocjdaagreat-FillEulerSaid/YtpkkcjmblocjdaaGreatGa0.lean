/- The functions, by their texts: written by a program. -/
import Derived.Test.YtpkkcjmblocjdaaGreatAm
import Derived.Test.YtpkkcjmblocjdaaGreatProg
set_option linter.unusedVariables false
set_option linter.unusedSimpArgs false
set_option linter.unusedSectionVars false
set_option maxRecDepth 100000
namespace Go.Proofs.YtpkkcjmblocjdaaGreat.AM
open Go.RowKit Go.Proofs
noncomputable section
abbrev uLf : Ann := .leaf
abbrev uNn : Ann → Ann → Ann := .node none none
abbrev kI:Kd:=.int .i64
abbrev kPP:Kd:=.pair kI kI
abbrev kLP:Kd:=.sl kPP
abbrev kPl:Kd:=.pair kLP (.pair kLP kLP)
abbrev PPt:Type:=Int×Int
abbrev LPt:Type:=List PPt
abbrev LTr:Type:=List (Int×PPt)
abbrev TPl:Type:=LPt×(LPt×LPt)
abbrev TMs:Type:=LPt×(LTr×LPt)
def tb : Tb := [
 (3, ⟨.int .i64, 1, 8, [.int .i64 0], some kI, none⟩),
 (4, ⟨.bool, 1, 1, [.bool false], some .bool, none⟩),
 (22, ⟨.sl 44, 1, 24, [.nil], some kLP, none⟩),
 (23, ⟨.sl 60, 1, 24, [.nil], some kLP, none⟩),
 (25, ⟨.st [(0, 22), (1, 23), (2, 23)], 3, 72, [.nil, .nil, .nil], some kPl, none⟩),
 (29, ⟨.int .i64, 1, 8, [.int .i64 0], some kI, none⟩),
 (34, ⟨.sl 56, 1, 24, [.nil], some (.sl (.pair kI kPP)), none⟩),
 (36, ⟨.st [(0, 22), (1, 34), (2, 23)], 3, 72, [.nil, .nil, .nil], some (.pair kLP (.pair (.sl (.pair kI kPP)) kLP)), none⟩),
 (44, ⟨.st [(0, 3), (1, 3)], 2, 16, [.int .i64 0, .int .i64 0], some kPP, some [kI, kI]⟩),
 (49, ⟨.sl 3, 1, 24, [.nil], some (.sl kI), none⟩),
 (51, ⟨.st [(0, 4), (1, 49)], 2, 32, [.bool false, .nil], some (.pair .bool (.sl kI)), none⟩),
 (56, ⟨.st [(0, 3), (1, 3), (2, 3)], 3, 24, [.int .i64 0, .int .i64 0, .int .i64 0], some (.pair kI kPP), some [kI, kI, kI]⟩),
 (60, ⟨.st [(0, 3), (1, 3)], 2, 16, [.int .i64 0, .int .i64 0], some kPP, some [kI, kI]⟩),
 (63, ⟨.sl 49, 1, 24, [.nil], some (.sl (.sl kI)), none⟩),
 (85, ⟨.mp 60 4, 1, 8, [.nmp], some (.mp kPP .bool), none⟩),
 (94, ⟨.st [(0, 3), (1, 3), (2, 3)], 3, 24, [.int .i64 0, .int .i64 0, .int .i64 0], some (.pair kI kPP), some [kI, kI, kI]⟩),
 (97, ⟨.arr 3 60, 6, 48, [.int .i64 0, .int .i64 0, .int .i64 0, .int .i64 0, .int .i64 0, .int .i64 0], some (.pair kPP (.pair kPP kPP)), some [kI, kI, kI, kI, kI, kI]⟩),
 (118, ⟨.arr 3 3, 3, 24, [.int .i64 0, .int .i64 0, .int .i64 0], some (.pair kI kPP), some [kI, kI, kI]⟩),
 (132, ⟨.fn, 1, 8, [.dead], none, none⟩),
 (142, ⟨.arr 7 132, 7, 56, [.dead, .dead, .dead, .dead, .dead, .dead, .dead], none, none⟩),
 (143, ⟨.sl 23, 1, 24, [.nil], some (.sl kLP), none⟩),
 (157, ⟨.int .u64, 1, 8, [.int .u64 0], some (.int .u64), none⟩),
 (160, ⟨.sl 177, 1, 24, [.nil], some (.sl (.pair kPP kPP)), none⟩),
 (174, ⟨.arr 2 23, 2, 48, [.nil, .nil], some (.pair kLP kLP), none⟩),
 (177, ⟨.arr 2 44, 4, 32, [.int .i64 0, .int .i64 0, .int .i64 0, .int .i64 0], some (.pair kPP kPP), some [kI, kI, kI, kI]⟩),
 (185, ⟨.sl 4, 1, 24, [.nil], some (.sl .bool), none⟩),
 (195, ⟨.arr 4 157, 4, 32, [.int .u64 0, .int .u64 0, .int .u64 0, .int .u64 0], some (.pair (.int .u64) (.pair (.int .u64) (.pair (.int .u64) (.int .u64)))), some [.int .u64, .int .u64, .int .u64, .int .u64]⟩),
 (197, ⟨.st [(0, 4), (1, 195)], 5, 40, [.bool false, .int .u64 0, .int .u64 0, .int .u64 0, .int .u64 0], some (.pair .bool (.pair (.int .u64) (.pair (.int .u64) (.pair (.int .u64) (.int .u64))))), some [.bool, .int .u64, .int .u64, .int .u64, .int .u64]⟩),
 (203, ⟨.sl 205, 1, 24, [.nil], some kLP, none⟩),
 (205, ⟨.arr 2 3, 2, 16, [.int .i64 0, .int .i64 0], some kPP, some [kI, kI]⟩),
 (1000000012, XV),
 (1000000015, XV),
 (1000000039, XV),
 (1000000046, XV),
 (1000000048, XV),
 (1000000056, XV),
 (1000000118, XV),
 (1000000171, XV)]
def tbm : Tb := [
 (3, ⟨.int .i64, 1, 8, [.int .i64 0], some kI, none⟩),
 (4, ⟨.bool, 1, 1, [.bool false], some .bool, none⟩),
 (22, ⟨.sl 44, 1, 24, [.nil], some kLP, none⟩),
 (23, ⟨.sl 60, 1, 24, [.nil], some kLP, none⟩),
 (25, ⟨.st [(0, 22), (1, 23), (2, 23)], 3, 72, [.nil, .nil, .nil], some kPl, none⟩),
 (29, ⟨.int .i64, 1, 8, [.int .i64 0], some kI, none⟩),
 (34, ⟨.sl 56, 1, 24, [.nil], some (.sl (.pair kI kPP)), none⟩),
 (36, ⟨.st [(0, 22), (1, 34), (2, 23)], 3, 72, [.nil, .nil, .nil], some (.pair kLP (.pair (.sl (.pair kI kPP)) kLP)), none⟩),
 (44, ⟨.st [(0, 3), (1, 3)], 2, 16, [.int .i64 0, .int .i64 0], some kPP, some [kI, kI]⟩),
 (49, ⟨.sl 3, 1, 24, [.nil], some (.sl kI), none⟩),
 (51, ⟨.st [(0, 4), (1, 49)], 2, 32, [.bool false, .nil], some (.pair .bool (.sl kI)), none⟩),
 (56, ⟨.st [(0, 3), (1, 3), (2, 3)], 3, 24, [.int .i64 0, .int .i64 0, .int .i64 0], some (.pair kI kPP), some [kI, kI, kI]⟩),
 (60, ⟨.st [(0, 3), (1, 3)], 2, 16, [.int .i64 0, .int .i64 0], some kPP, some [kI, kI]⟩),
 (63, ⟨.sl 49, 1, 24, [.nil], some (.sl (.sl kI)), none⟩),
 (85, ⟨.mp 60 4, 1, 8, [.nmp], some (.mp kPP .bool), none⟩),
 (94, ⟨.st [(0, 3), (1, 3), (2, 3)], 3, 24, [.int .i64 0, .int .i64 0, .int .i64 0], some (.pair kI kPP), some [kI, kI, kI]⟩),
 (97, ⟨.arr 3 60, 6, 48, [.int .i64 0, .int .i64 0, .int .i64 0, .int .i64 0, .int .i64 0, .int .i64 0], some (.pair kPP (.pair kPP kPP)), some [kI, kI, kI, kI, kI, kI]⟩),
 (118, ⟨.arr 3 3, 3, 24, [.int .i64 0, .int .i64 0, .int .i64 0], some (.pair kI kPP), some [kI, kI, kI]⟩),
 (132, ⟨.fn, 1, 8, [.dead], none, none⟩),
 (142, ⟨.arr 7 132, 7, 56, [.dead, .dead, .dead, .dead, .dead, .dead, .dead], none, none⟩),
 (143, ⟨.sl 23, 1, 24, [.nil], some (.sl kLP), none⟩),
 (157, ⟨.int .u64, 1, 8, [.int .u64 0], some (.int .u64), none⟩),
 (160, ⟨.sl 177, 1, 24, [.nil], some (.sl (.pair kPP kPP)), none⟩),
 (174, ⟨.arr 2 23, 2, 48, [.nil, .nil], some (.pair kLP kLP), none⟩),
 (177, ⟨.arr 2 44, 4, 32, [.int .i64 0, .int .i64 0, .int .i64 0, .int .i64 0], some (.pair kPP kPP), some [kI, kI, kI, kI]⟩),
 (185, ⟨.sl 4, 1, 24, [.nil], some (.sl .bool), none⟩),
 (195, ⟨.arr 4 157, 4, 32, [.int .u64 0, .int .u64 0, .int .u64 0, .int .u64 0], some (.pair (.int .u64) (.pair (.int .u64) (.pair (.int .u64) (.int .u64)))), some [.int .u64, .int .u64, .int .u64, .int .u64]⟩),
 (197, ⟨.st [(0, 4), (1, 195)], 5, 40, [.bool false, .int .u64 0, .int .u64 0, .int .u64 0, .int .u64 0], some (.pair .bool (.pair (.int .u64) (.pair (.int .u64) (.pair (.int .u64) (.int .u64))))), some [.bool, .int .u64, .int .u64, .int .u64, .int .u64]⟩),
 (203, ⟨.sl 205, 1, 24, [.nil], some kLP, none⟩),
 (205, ⟨.arr 2 3, 2, 16, [.int .i64 0, .int .i64 0], some kPP, some [kI, kI]⟩),
 (1000000012, XV),
 (1000000039, XV),
 (1000000048, XV),
 (1000000056, XV),
 (1000000118, XV),
 (1000000171, XV),
 (2000053044, XV)]
def tbx : Tb := [
 (3, ⟨.int .i64, 1, 8, [.int .i64 0], some kI, none⟩),
 (4, ⟨.bool, 1, 1, [.bool false], some .bool, none⟩),
 (22, ⟨.sl 44, 1, 24, [.nil], some kLP, none⟩),
 (23, ⟨.sl 60, 1, 24, [.nil], some kLP, none⟩),
 (25, ⟨.st [(0, 22), (1, 23), (2, 23)], 3, 72, [.nil, .nil, .nil], some kPl, none⟩),
 (29, ⟨.int .i64, 1, 8, [.int .i64 0], some kI, none⟩),
 (34, ⟨.sl 56, 1, 24, [.nil], some (.sl (.pair kI kPP)), none⟩),
 (36, ⟨.st [(0, 22), (1, 34), (2, 23)], 3, 72, [.nil, .nil, .nil], some (.pair kLP (.pair (.sl (.pair kI kPP)) kLP)), none⟩),
 (44, ⟨.st [(0, 3), (1, 3)], 2, 16, [.int .i64 0, .int .i64 0], some kPP, some [kI, kI]⟩),
 (49, ⟨.sl 3, 1, 24, [.nil], some (.sl kI), none⟩),
 (51, ⟨.st [(0, 4), (1, 49)], 2, 32, [.bool false, .nil], some (.pair .bool (.sl kI)), none⟩),
 (56, ⟨.st [(0, 3), (1, 3), (2, 3)], 3, 24, [.int .i64 0, .int .i64 0, .int .i64 0], some (.pair kI kPP), some [kI, kI, kI]⟩),
 (60, ⟨.st [(0, 3), (1, 3)], 2, 16, [.int .i64 0, .int .i64 0], some kPP, some [kI, kI]⟩),
 (63, ⟨.sl 49, 1, 24, [.nil], some (.sl (.sl kI)), none⟩),
 (85, ⟨.mp 60 4, 1, 8, [.nmp], some (.mp kPP .bool), none⟩),
 (94, ⟨.st [(0, 3), (1, 3), (2, 3)], 3, 24, [.int .i64 0, .int .i64 0, .int .i64 0], some (.pair kI kPP), some [kI, kI, kI]⟩),
 (97, ⟨.arr 3 60, 6, 48, [.int .i64 0, .int .i64 0, .int .i64 0, .int .i64 0, .int .i64 0, .int .i64 0], some (.pair kPP (.pair kPP kPP)), some [kI, kI, kI, kI, kI, kI]⟩),
 (118, ⟨.arr 3 3, 3, 24, [.int .i64 0, .int .i64 0, .int .i64 0], some (.pair kI kPP), some [kI, kI, kI]⟩),
 (132, ⟨.fn, 1, 8, [.dead], none, none⟩),
 (142, ⟨.arr 7 132, 7, 56, [.dead, .dead, .dead, .dead, .dead, .dead, .dead], none, none⟩),
 (143, ⟨.sl 23, 1, 24, [.nil], some (.sl kLP), none⟩),
 (157, ⟨.int .u64, 1, 8, [.int .u64 0], some (.int .u64), none⟩),
 (160, ⟨.sl 177, 1, 24, [.nil], some (.sl (.pair kPP kPP)), none⟩),
 (174, ⟨.arr 2 23, 2, 48, [.nil, .nil], some (.pair kLP kLP), none⟩),
 (177, ⟨.arr 2 44, 4, 32, [.int .i64 0, .int .i64 0, .int .i64 0, .int .i64 0], some (.pair kPP kPP), some [kI, kI, kI, kI]⟩),
 (185, ⟨.sl 4, 1, 24, [.nil], some (.sl .bool), none⟩),
 (195, ⟨.arr 4 157, 4, 32, [.int .u64 0, .int .u64 0, .int .u64 0, .int .u64 0], some (.pair (.int .u64) (.pair (.int .u64) (.pair (.int .u64) (.int .u64)))), some [.int .u64, .int .u64, .int .u64, .int .u64]⟩),
 (197, ⟨.st [(0, 4), (1, 195)], 5, 40, [.bool false, .int .u64 0, .int .u64 0, .int .u64 0, .int .u64 0], some (.pair .bool (.pair (.int .u64) (.pair (.int .u64) (.pair (.int .u64) (.int .u64))))), some [.bool, .int .u64, .int .u64, .int .u64, .int .u64]⟩),
 (203, ⟨.sl 205, 1, 24, [.nil], some kLP, none⟩),
 (205, ⟨.arr 2 3, 2, 16, [.int .i64 0, .int .i64 0], some kPP, some [kI, kI]⟩),
 (1000000012, XV),
 (1000000039, XV),
 (1000000048, XV),
 (1000000056, XV),
 (1000000118, XV),
 (1000000171, XV)]
theorem zu0:Yz Tryz.prog tbx:=ztR (by kernel_rfl)
theorem zO:Yz Tryz.prog tb:=ztR (by kernel_rfl)
theorem mix:Tryz.prog.follows .mixedOrders=true:=by kernel_rfl
def zcI:Ann:=uLf
def Z3 (k : Nat) (a0 : Int) : Option Bool :=
 some (!(decide (a0 = a0)))
theorem ziv (k:Nat) (a0:Int):zN [] tb k Tryz.f131 zcI [.d kI] [.bool] a0=Z3 k a0:=by kernel_rfl
theorem zfP (k:Nat):zv Tryz.prog 131 [.d kI] [.bool] (fun x=>Z3 k x):=fun x y h=>zh zO mix (zo.nil _) Tryz.func131 (N:=k) (an:=zcI) (by kernel_rfl) x y ((ziv k x).trans h)
def zaH:Ann:=uLf
def Jr (k : Nat) (Q7 : Int → Option Bool) (a0 : Int) (a1 : Int) : Option Int :=
 bnd (Q7 a0) fun r0 =>
 bnd (Q7 a1) fun r1 =>
 bif r0 then
 bif r1 then
 some 0
 else
 some (-1)
 else
 bif r1 then
 some 1
 else
 bif decide (a0 < a1) then
 some (-1)
 else
 bif decide (a0 > a1) then
 some 1
 else
 some 0
theorem zgU (k:Nat) (Q7:Int→Option Bool) (a0:Int) (a1:Int):zN [⟨131,[.d kI],[.bool],fun x=>Q7 x,none⟩] tb k Tryz.f90 zaH [.d kI,.d kI] [kI] (a0,a1)=Jr k Q7 a0 a1:=by kernel_rfl
def qE (k:Nat) (a0:Int) (a1:Int):Option Int:=Jr k (Z3 k) a0 a1
theorem Jl (k:Nat):zv Tryz.prog 90 [.d kI,.d kI] [kI] (fun x=>qE k (x.1) (x.2)):=fun x y h=>zh zO mix (zo.cons (ze.of rfl (zfP k)) (zo.nil _)) Tryz.func90 (N:=k) (an:=zaH) (by kernel_rfl) x y ((zgU k (Z3 k) (x.1) (x.2)).trans h)
def zf7:Ann:=uNn uLf (uNn uLf (uNn (uNn uLf (uNn (.node none (some [(3,.d kI),(6,.d (.sl kI)),(7,.d kI),(8,.d kI)]) uLf uLf) uLf)) uLf))
def Zd (k : Nat) (a0 : (List Int)) : Option Int :=
 zw (α := (Int × ((List Int) × PPt))) (fun (x1, x2, x3, x4) next0 =>
 bif decide (x4 < x3) then
 gd (inb x4 x2.length) <|
 bif !(decide ((rdD 0 x2 x4) = x1)) then
 some (rdD 0 x2 x4)
 else
 next0 (x1, x2, x3, w64 (x4 + 1))
 else
 some x1) k (0, a0, (a0.length : Int), 0)
theorem zlR (k:Nat) (a0:(List Int)):zN [] tb k Tryz.f89 zf7 [.d (.sl kI)] [kI] a0=Zd k a0:=by kernel_rfl
theorem zb6 (k:Nat):zv Tryz.prog 89 [.d (.sl kI)] [kI] (fun x=>Zd k x):=fun x y h=>zh zO mix (zo.nil _) Tryz.func89 (N:=k) (an:=zf7) (by kernel_rfl) x y ((zlR k x).trans h)
def zgl:Ann:=uLf
def zdm (k : Nat) (z7 : Int → Int → Option Int) (ZD : (List Int) → Option Int) (a0 : PPt) (a1 : PPt) : Option Int :=
 bnd (z7 a0.1 a1.1) fun r0 =>
 bnd (z7 a0.2 a1.2) fun r1 =>
 bnd (ZD [r0, r1]) fun r2 =>
 some r2
theorem zl3 (k:Nat) (z7:Int→Int→Option Int) (ZD:(List Int)→Option Int) (a0:PPt) (a1:PPt):zN [⟨90,[.d kI,.d kI],[kI],fun x=>z7 (x.1) (x.2),none⟩,⟨89,[.d (.sl kI)],[kI],fun x=>ZD x,none⟩] tb k Tryz.f49 zgl [.d kPP,.d kPP] [kI] (a0,a1)=zdm k z7 ZD a0 a1:=by kernel_rfl
def Qu (k:Nat) (a0:PPt) (a1:PPt):Option Int:=zdm k (qE k) (Zd k) a0 a1
theorem zcd (k:Nat):zv Tryz.prog 49 [.d kPP,.d kPP] [kI] (fun x=>Qu k (x.1) (x.2)):=fun x y h=>zh zO mix (zo.cons (ze.of rfl (Jl k)) (zo.cons (ze.of rfl (zb6 k)) (zo.nil _))) Tryz.func49 (N:=k) (an:=zgl) (by kernel_rfl) x y ((zl3 k (qE k) (Zd k) (x.1) (x.2)).trans h)
def zf3:Ann:=uLf
def zc2 (k : Nat) (z7 : Int → Int → Option Int) (ZD : (List Int) → Option Int) (a0 : (Int × PPt)) (a1 : (Int × PPt)) : Option Int :=
 bnd (z7 a0.1 a1.1) fun r0 =>
 bnd (z7 a0.2.1 a1.2.1) fun r1 =>
 bnd (z7 a0.2.2 a1.2.2) fun r2 =>
 bnd (ZD [r0, r1, r2]) fun r3 =>
 some r3
theorem zlW (k:Nat) (z7:Int→Int→Option Int) (ZD:(List Int)→Option Int) (a0:(Int×PPt)) (a1:(Int×PPt)):zN [⟨90,[.d kI,.d kI],[kI],fun x=>z7 (x.1) (x.2),none⟩,⟨89,[.d (.sl kI)],[kI],fun x=>ZD x,none⟩] tb k Tryz.f57 zf3 [.d (.pair kI kPP),.d (.pair kI kPP)] [kI] (a0,a1)=zc2 k z7 ZD a0 a1:=by kernel_rfl
def Q1 (k:Nat) (a0:(Int×PPt)) (a1:(Int×PPt)):Option Int:=zc2 k (qE k) (Zd k) a0 a1
theorem zcD (k:Nat):zv Tryz.prog 57 [.d (.pair kI kPP),.d (.pair kI kPP)] [kI] (fun x=>Q1 k (x.1) (x.2)):=fun x y h=>zh zO mix (zo.cons (ze.of rfl (Jl k)) (zo.cons (ze.of rfl (zb6 k)) (zo.nil _))) Tryz.func57 (N:=k) (an:=zf3) (by kernel_rfl) x y ((zlW k (qE k) (Zd k) (x.1) (x.2)).trans h)
end
end Go.Proofs.YtpkkcjmblocjdaaGreat.AM
