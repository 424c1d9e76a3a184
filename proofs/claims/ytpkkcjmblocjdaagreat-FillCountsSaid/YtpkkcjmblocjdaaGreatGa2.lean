/- The functions, by their texts: written by a program. -/
import Derived.Test.YtpkkcjmblocjdaaGreatGa1
import Derived.Test.YtpkkcjmblocjdaaGreatCln
set_option linter.unusedVariables false
set_option linter.unusedSimpArgs false
set_option linter.unusedSectionVars false
set_option maxRecDepth 100000
namespace Go.Proofs.YtpkkcjmblocjdaaGreat.AM
open Go.RowKit Go.Proofs
noncomputable section
def zit:Ann:=uNn uLf (uNn (.node (some [(6,.d .bool)]) none uLf uLf) uLf)
def Jl (k : Nat) (a0 : Int) (a1 : Int) (a2 : Int) : Option Bool :=
 zz (α := Bool) (fun y0 =>
 some y0) fun j1 =>
 bif decide (a0 ≥ a1) then
 j1 (decide (a0 ≤ a2))
 else
 j1 false
theorem zoB (k:Nat) (a0:Int) (a1:Int) (a2:Int):zN [] tb k Tryz.f146 zit [.d kI,.d kI,.d kI] [.bool] (a0,a1,a2)=Jl k a0 a1 a2:=by kernel_rfl
theorem zjh (k:Nat):zv Tryz.prog 146 [.d kI,.d kI,.d kI] [.bool] (fun x=>Jl k (x.1) (x.2.1) (x.2.2)):=fun x y h=>zg zO mix (zp.nil _) Tryz.func146 (N:=k) (an:=zit) (by kernel_rfl) x y ((zoB k (x.1) (x.2.1) (x.2.2)).trans h)
def zex:Ann:=uNn uLf (uNn (uNn (.node (some [(1,.box [.d kPl]),(24,.d .bool)]) none uLf uLf) uLf) (uNn (uNn uLf (uNn (.node none (some [(1,.box [.d kPl]),(26,.d kLP),(27,.d kI),(28,.d kI)]) (uNn uLf (uNn uLf (uNn (uNn (uNn uLf (uNn (.node (some [(1,.box [.d kPl]),(26,.d kLP),(27,.d kI),(28,.d kI),(41,.d .bool)]) none uLf uLf) uLf)) uLf) uLf))) uLf) uLf)) (uNn (uNn uLf (uNn (.node none (some [(1,.box [.d kPl]),(47,.d (.pair kLP kLP)),(48,.d kI)]) (uNn uLf (uNn uLf (uNn (uNn (uNn (.node (some [(1,.box [.d kPl]),(6,.d kLP),(47,.d (.pair kLP kLP)),(48,.d kI)]) none uLf uLf) (uNn uLf (uNn (.node none (some [(1,.box [.d kPl]),(47,.d (.pair kLP kLP)),(48,.d kI),(51,.d kLP),(52,.d kI),(53,.d kI)]) (uNn uLf (uNn uLf (uNn (uNn (uNn uLf (uNn (.node (some [(1,.box [.d kPl]),(47,.d (.pair kLP kLP)),(48,.d kI),(51,.d kLP),(52,.d kI),(53,.d kI),(74,.d .bool)]) none uLf uLf) uLf)) uLf) uLf))) uLf) uLf))) uLf) uLf))) uLf) uLf)) uLf)))
def zbv (k : Nat) (Ky : Int → Int → Int → Option Bool) (a0 : TPl) : Option Int :=
 zz (α := (TPl × Bool)) (fun (y0, y1) =>
 bif y1 then
 some 2
 else
 zA (α := (TPl × (LPt × PPt))) (fun (x3, x4, x5, x6) next2 =>
 bif decide (x6 < x5) then
 gd (inb x6 x4.length) <|
 zz (α := (TPl × (LPt × (Int × (Int × Bool))))) (fun (y7, y8, y9, y10, y11) =>
 bif y11 then
 some 2
 else
 next2 ((y7.1, y7.2.1, y7.2.2), y8, y9, w64 (y10 + 1))) fun j12 =>
 bnd (Ky (rdD (0, 0) x4 x6).1 (-1048576) 1048576) fun r13 =>
 bif !r13 then
 j12 ((x3.1, x3.2.1, x3.2.2), x4, x5, x6, true)
 else
 bnd (Ky (rdD (0, 0) x4 x6).2 (-1048576) 1048576) fun r14 =>
 j12 ((x3.1, x3.2.1, x3.2.2), x4, x5, x6, !r14)
 else
 zA (α := (TPl × ((LPt × LPt) × Int))) (fun (x16, x17, x18) next15 =>
 bif decide (x18 < 2) then
 zz (α := (TPl × (LPt × ((LPt × LPt) × Int)))) (fun (y19, y20, y21, y22) =>
 zA (α := (TPl × ((LPt × LPt) × (Int × (LPt × PPt))))) (fun (x24, x25, x26, x27, x28, x29) next23 =>
 bif decide (x29 < x28) then
 gd (inb x29 x27.length) <|
 zz (α := (TPl × ((LPt × LPt) × (Int × (LPt × (Int × (Int × Bool))))))) (fun (y30, y31, y32, y33, y34, y35, y36) =>
 bif y36 then
 some 2
 else
 next23 ((y30.1, y30.2.1, y30.2.2), (y31.1, y31.2), y32, y33, y34, w64 (y35 + 1))) fun j37 =>
 bnd (Ky (rdD (0, 0) x27 x29).1 0 (w64 ((x24.1.length : Int) - 1))) fun r38 =>
 bif !r38 then
 j37 ((x24.1, x24.2.1, x24.2.2), (x25.1, x25.2), x26, x27, x28, x29, true)
 else
 bnd (Ky (rdD (0, 0) x27 x29).2 0 (w64 ((x24.1.length : Int) - 1))) fun r39 =>
 j37 ((x24.1, x24.2.1, x24.2.2), (x25.1, x25.2), x26, x27, x28, x29, !r39)
 else
 next15 ((x24.1, x24.2.1, x24.2.2), (x25.1, x25.2), w64 (x26 + 1))) k ((y19.1, y19.2.1, y19.2.2), (y21.1, y21.2), y22, y20, (y20.length : Int), 0)) fun j40 =>
 bif decide (x18 = 0) then
 j40 ((x16.1, x16.2.1, x16.2.2), x17.1, (x17.1, x17.2), x18)
 else
 bif decide (x18 = 1) then
 j40 ((x16.1, x16.2.1, x16.2.2), x17.2, (x17.1, x17.2), x18)
 else
 none
 else
 some 0) k ((x3.1, x3.2.1, x3.2.2), (x3.2.1, x3.2.2), 0)) k ((y0.1, y0.2.1, y0.2.2), y0.1, (y0.1.length : Int), 0)) fun j41 =>
 bif decide ((a0.1.length : Int) > 200) then
 j41 ((a0.1, a0.2.1, a0.2.2), true)
 else
 bif decide ((a0.2.1.length : Int) > 400) then
 j41 ((a0.1, a0.2.1, a0.2.2), true)
 else
 j41 ((a0.1, a0.2.1, a0.2.2), decide ((a0.2.2.length : Int) > 400))
theorem zj5 (k:Nat) (Ky:Int→Int→Int→Option Bool) (a0:TPl):zN [⟨146,[.d kI,.d kI,.d kI],[.bool],fun x=>Ky (x.1) (x.2.1) (x.2.2),none⟩] tb k Tryz.f110 zex [.d kPl] [kI] a0=zbv k Ky a0:=by kernel_rfl
def QZ (k:Nat) (a0:TPl):Option Int:=zbv k (Jl k) a0
theorem zgN (k:Nat):zv Tryz.prog 110 [.d kPl] [kI] (fun x=>QZ k x):=fun x y h=>zg zO mix (zp.cons (ze.of rfl (zjh k)) (zp.nil _)) Tryz.func110 (N:=k) (an:=zex) (by kernel_rfl) x y ((zj5 k (Jl k) x).trans h)
def zfJ:Ann:=uNn uLf (uNn (.node (some [(4,.d .bool)]) none uLf uLf) uLf)
def JT (k : Nat) (a0 : PPt) (a1 : PPt) : Option Bool :=
 zz (α := Bool) (fun y0 =>
 some y0) fun j1 =>
 bif decide (a0.1 < a1.1) then
 j1 true
 else
 bif decide (a0.1 = a1.1) then
 j1 (decide (a0.2 < a1.2))
 else
 j1 false
theorem zk8 (k:Nat) (a0:PPt) (a1:PPt):zN [] tb k Tryz.f181 zfJ [.d kPP,.d kPP] [.bool] (a0,a1)=JT k a0 a1:=by kernel_rfl
theorem zh3 (k:Nat):zv Tryz.prog 181 [.d kPP,.d kPP] [.bool] (fun x=>JT k (x.1) (x.2)):=fun x y h=>zg zO mix (zp.nil _) Tryz.func181 (N:=k) (an:=zfJ) (by kernel_rfl) x y ((zk8 k (x.1) (x.2)).trans h)
def zb0:Ann:=uLf
def Xx (k : Nat) (X8 : PPt → PPt → Option Bool) (a0 : Int) (a1 : Int) (a2 : LPt) : Option Bool :=
 gd (inb a0 a2.length) <|
 gd (inb a1 a2.length) <|
 bnd (X8 ((rdD (0, 0) a2 a0).1, (rdD (0, 0) a2 a0).2) ((rdD (0, 0) a2 a1).1, (rdD (0, 0) a2 a1).2)) fun r0 =>
 some r0
theorem zic (k:Nat) (X8:PPt→PPt→Option Bool) (a0:Int) (a1:Int) (a2:LPt):zN [⟨181,[.d kPP,.d kPP],[.bool],fun x=>X8 (x.1) (x.2),none⟩] tb k Tryz.f180 zb0 [.d kI,.d kI,.kp kLP] [.bool] (a0,a1,a2)=Xx k X8 a0 a1 a2:=by kernel_rfl
def QV (k:Nat) (a0:Int) (a1:Int) (a2:LPt):Option Bool:=Xx k (JT k) a0 a1 a2
theorem zfi (k:Nat):zv Tryz.prog 180 [.d kI,.d kI,.kp kLP] [.bool] (fun x=>QV k (x.1) (x.2.1) (x.2.2)):=fun x y h=>zg zO mix (zp.cons (ze.of rfl (zh3 k)) (zp.nil _)) Tryz.func180 (N:=k) (an:=zb0) (by kernel_rfl) x y ((zic k (JT k) (x.1) (x.2.1) (x.2.2)).trans h)
def zal:Ann:=uNn uLf (uNn uLf (uNn (uNn (.node none (some [(0,.d (.sl kI)),(1,.d (.sl kI)),(2,.fn 180 [] [(.kp kLP)]),(7,.row kI 3)]) (uNn (uNn (.node (some [(0,.d (.sl kI)),(1,.d (.sl kI)),(2,.fn 180 [] [(.kp kLP)]),(7,.row kI 3),(15,.d .bool)]) none uLf uLf) uLf) (uNn (uNn uLf (.node (some [(0,.d (.sl kI)),(1,.d (.sl kI)),(2,.fn 180 [] [(.kp kLP)]),(7,.row kI 3)]) none (.reg none [(5,7)]) (.reg none [(5,7)]))) uLf)) uLf) uLf) uLf))
def Ye (k : Nat) (Kr : Int → Int → LPt → Option Bool) (a0 : (List Int)) (a1 : (List Int)) (a2 : (Unit × LPt)) : Option (List Int) :=
 zA (α := ((List Int) × ((List Int) × ((Unit × LPt) × (List Int))))) (fun (x1, x2, x3, x4) next0 =>
 zz (α := ((List Int) × ((List Int) × ((Unit × LPt) × ((List Int) × Bool))))) (fun (y5, y6, y7, y8, y9) =>
 bif y9 then
 gd (inb 0 y6.length) <|
 gd (inb 0 y5.length) <|
 bnd (Kr (rdD 0 y6 0) (rdD 0 y5 0) y7.2) fun r10 =>
 zz (α := ((List Int) × ((List Int) × ((Unit × LPt) × (List Int))))) (fun (y11, y12, y13, y14) =>
 next0 (y11, y12, ((), y13.2), y14)) fun j15 =>
 bif r10 then
 gd (inb 0 y6.length) <|
 gd (few (y8.length + 1)) <|
 gd (decide (1 ≤ (y6.length : Int))) <|
 j15 (y5, dpL y6 1, ((), y7.2), y8 ++ [rdD 0 y6 0])
 else
 gd (inb 0 y5.length) <|
 gd (few (y8.length + 1)) <|
 gd (decide (1 ≤ (y5.length : Int))) <|
 j15 (dpL y5 1, y6, ((), y7.2), y8 ++ [rdD 0 y5 0])
 else
 gd (few (y8.length + y5.length)) <|
 gd (few ((y8 ++ y5).length + y6.length)) <|
 some ((y8 ++ y5) ++ y6)) fun j16 =>
 bif decide ((x1.length : Int) > 0) then
 j16 (x1, x2, ((), x3.2), x4, decide ((x2.length : Int) > 0))
 else
 j16 (x1, x2, ((), x3.2), x4, false)) k (a0, a1, ((), a2.2), [])
theorem zga (k:Nat) (Kr:Int→Int→LPt→Option Bool) (a0:(List Int)) (a1:(List Int)) (a2:(Unit×LPt)):zN [⟨180,[.d kI,.d kI,.kp kLP],[.bool],fun x=>Kr (x.1) (x.2.1) (x.2.2),none⟩] tb k Tryz.f184 zal [.d (.sl kI),.d (.sl kI),.fn 180 [] [(.kp kLP)]] [.sl kI] (a0,a1,a2)=Ye k Kr a0 a1 a2:=by kernel_rfl
def jd (k:Nat) (a0:(List Int)) (a1:(List Int)) (a2:(Unit×LPt)):Option (List Int):=Ye k (QV k) a0 a1 a2
theorem zdh (k:Nat):zv Tryz.prog 184 [.d (.sl kI),.d (.sl kI),.fn 180 [] [(.kp kLP)]] [.sl kI] (fun x=>jd k (x.1) (x.2.1) (x.2.2)):=fun x y h=>zg zO mix (zp.cons (ze.of rfl (zfi k)) (zp.nil _)) Tryz.func184 (N:=k) (an:=zal) (by kernel_rfl) x y ((zga k (QV k) (x.1) (x.2.1) (x.2.2)).trans h)
def za2:Ann:=uLf
def ZD (k : Nat) (qR : (List Int) → (Unit × LPt) → Option (List Int)) (Jc : (List Int) → (List Int) → (Unit × LPt) → Option (List Int)) (a0 : (List Int)) (a1 : (Unit × LPt)) : Option (List Int) :=
 bif decide ((a0.length : Int) < 2) then
 gd (few a0.length) <|
 some a0
 else
 gd (decide (0 ≤ (w64 ((a0.length : Int).tdiv 2)))) <|
 gd (decide ((w64 ((a0.length : Int).tdiv 2)) ≤ (a0.length : Int))) <|
 bnd (qR (tkL a0 (w64 ((a0.length : Int).tdiv 2))) ((), a1.2)) fun r0 =>
 gd (decide (0 ≤ (w64 ((a0.length : Int).tdiv 2)))) <|
 gd (decide ((w64 ((a0.length : Int).tdiv 2)) ≤ (a0.length : Int))) <|
 bnd (qR (dpL a0 (w64 ((a0.length : Int).tdiv 2))) ((), a1.2)) fun r1 =>
 bnd (Jc r0 r1 ((), a1.2)) fun r2 =>
 some r2
theorem zg3 (k:Nat) (qR:(List Int)→(Unit×LPt)→Option (List Int)) (Jc:(List Int)→(List Int)→(Unit×LPt)→Option (List Int)) (a0:(List Int)) (a1:(Unit×LPt)):zN [⟨179,[.d (.sl kI),.fn 180 [] [(.kp kLP)]],[.sl kI],fun x=>qR (x.1) (x.2),none⟩,⟨184,[.d (.sl kI),.d (.sl kI),.fn 180 [] [(.kp kLP)]],[.sl kI],fun x=>Jc (x.1) (x.2.1) (x.2.2),none⟩] tb k Tryz.f179 za2 [.d (.sl kI),.fn 180 [] [(.kp kLP)]] [.sl kI] (a0,a1)=ZD k qR Jc a0 a1:=by kernel_rfl
def js (k : Nat) : Nat → (List Int) → (Unit × LPt) → Option (List Int)
 | 0 => fun a0 a1 => none
 | n + 1 => fun a0 a1 => ZD k (js k n) (jd k) a0 a1
def JM (k:Nat) (a0:(List Int)) (a1:(Unit×LPt)):Option (List Int):=js k k a0 a1
theorem Yu (k : Nat) : ∀ n, zv Tryz.prog 179 [.d (.sl kI), .fn 180 [] [(.kp kLP)]] [.sl kI] (fun x => js k n (x.1) (x.2))
 | 0 => fun x y h => by cases h
 | n + 1 => fun x y h => zg zO mix (es := [⟨179, [.d (.sl kI), .fn 180 [] [(.kp kLP)]], [.sl kI], fun x => js k n (x.1) (x.2), none⟩, ⟨184, [.d (.sl kI), .d (.sl kI), .fn 180 [] [(.kp kLP)]], [.sl kI], fun x => jd k (x.1) (x.2.1) (x.2.2), none⟩]) (zp.cons (ze.of rfl (Yu k n)) (zp.cons (ze.of rfl (zdh k)) (zp.nil _))) Tryz.func179 (N := k) (an := za2) (by kernel_rfl) x y ((zg3 k (js k n) (jd k) (x.1) (x.2)).trans h)
theorem zd2 (k:Nat):zv Tryz.prog 179 [.d (.sl kI),.fn 180 [] [(.kp kLP)]] [.sl kI] (fun x=>JM k (x.1) (x.2)):=Yu k k
def zeH:Ann:=uNn uLf (uNn uLf (uNn (uNn uLf (uNn (.node none (some [(1,.box [.d kLP]),(3,.row kI 3),(6,.d kI),(7,.d kI)]) uLf uLf) uLf)) uLf))
def zbB (k : Nat) (qR : (List Int) → (Unit × LPt) → Option (List Int)) (a0 : LPt) : Option (List Int) :=
 zA (α := (LPt × ((List Int) × PPt))) (fun (x1, x2, x3, x4) next0 =>
 bif decide (x4 < x3) then
 gd (few (x2.length + 1)) <|
 next0 (x1, x2 ++ [x4], x3, w64 (x4 + 1))
 else
 bnd (qR x2 ((), x1)) fun r5 =>
 some r5) k (a0, [], (a0.length : Int), 0)
theorem zkx (k:Nat) (qR:(List Int)→(Unit×LPt)→Option (List Int)) (a0:LPt):zN [⟨179,[.d (.sl kI),.fn 180 [] [(.kp kLP)]],[.sl kI],fun x=>qR (x.1) (x.2),none⟩] tb k Tryz.f167 zeH [.d kLP] [.sl kI] a0=zbB k qR a0:=by kernel_rfl
def Kk (k:Nat) (a0:LPt):Option (List Int):=zbB k (JM k) a0
theorem zgP (k:Nat):zv Tryz.prog 167 [.d kLP] [.sl kI] (fun x=>Kk k x):=fun x y h=>zg zO mix (zp.cons (ze.of rfl (zd2 k)) (zp.nil _)) Tryz.func167 (N:=k) (an:=zeH) (by kernel_rfl) x y ((zkx k (JM k) x).trans h)
def zd4:Ann:=uNn uLf (uNn uLf (uNn uLf (uNn (uNn uLf (uNn (.node none (some [(0,.d kLP),(5,.d kI),(6,.d kI),(7,.d .bool),(8,.d (.sl kI)),(9,.d kI)]) (uNn uLf (uNn (uNn (uNn uLf (uNn (.node (some [(0,.d kLP),(5,.d kI),(6,.d kI),(7,.d .bool),(8,.d (.sl kI)),(9,.d kI),(10,.d kI),(11,.d kI),(46,.d .bool)]) none uLf uLf) (.node (some [(0,.d kLP),(5,.d kI),(6,.d kI),(7,.d .bool),(8,.d (.sl kI)),(9,.d kI)]) none uLf uLf))) uLf) uLf)) uLf) uLf)) uLf)))
def zbi (k : Nat) (YT : LPt → Option (List Int)) (a0 : LPt) : Option (Int × Int × Bool) :=
 bnd (YT a0) fun r0 =>
 zA (α := (LPt × (Int × (Int × (Bool × ((List Int) × Int)))))) (fun (x2, x3, x4, x5, x6, x7) next1 =>
 bif decide (x7 < (x6.length : Int)) then
 gd (inb (w64 (x7 - 1)) x6.length) <|
 gd (inb x7 x6.length) <|
 zz (α := (LPt × (Int × (Int × (Bool × ((List Int) × (Int × (Int × (Int × Bool))))))))) (fun (y8, y9, y10, y11, y12, y13, y14, y15, y16) =>
 zz (α := (LPt × (Int × (Int × (Bool × ((List Int) × Int)))))) (fun (y17, y18, y19, y20, y21, y22) =>
 next1 (y17, y18, y19, y20, y21, w64 (y22 + 1))) fun j23 =>
 bif y16 then
 j23 (y8, y14, y15, true, y12, y13)
 else
 j23 (y8, y9, y10, y11, y12, y13)) fun j24 =>
 gd (inb (rdD 0 x6 (w64 (x7 - 1))) x2.length) <|
 gd (inb (rdD 0 x6 x7) x2.length) <|
 bif (decide ((rdD (0, 0) x2 (rdD 0 x6 (w64 (x7 - 1)))).1 = (rdD (0, 0) x2 (rdD 0 x6 x7)).1)) && (decide ((rdD (0, 0) x2 (rdD 0 x6 (w64 (x7 - 1)))).2 = (rdD (0, 0) x2 (rdD 0 x6 x7)).2)) then
 bif !x5 then
 j24 (x2, x3, x4, x5, x6, x7, rdD 0 x6 (w64 (x7 - 1)), rdD 0 x6 x7, true)
 else
 j24 (x2, x3, x4, x5, x6, x7, rdD 0 x6 (w64 (x7 - 1)), rdD 0 x6 x7, decide ((rdD 0 x6 (w64 (x7 - 1))) < x3))
 else
 j24 (x2, x3, x4, x5, x6, x7, rdD 0 x6 (w64 (x7 - 1)), rdD 0 x6 x7, false)
 else
 some (x3, x4, x5)) k (a0, 0, 0, false, r0, 1)
theorem zjZ (k:Nat) (YT:LPt→Option (List Int)) (a0:LPt):zN [⟨167,[.d kLP],[.sl kI],fun x=>YT x,none⟩] tb k Tryz.f147 zd4 [.d kLP] [kI,kI,.bool] a0=zbi k YT a0:=by kernel_rfl
def Q0 (k:Nat) (a0:LPt):Option (Int×Int×Bool):=zbi k (Kk k) a0
theorem zg7 (k:Nat):zv Tryz.prog 147 [.d kLP] [kI,kI,.bool] (fun x=>Q0 k x):=fun x y h=>zg zO mix (zp.cons (ze.of rfl (zgP k)) (zp.nil _)) Tryz.func147 (N:=k) (an:=zd4) (by kernel_rfl) x y ((zjZ k (Kk k) x).trans h)
def zeN:Ann:=uLf
def zbe (k : Nat) (YU : LPt → Option (Int × Int × Bool)) (a0 : TPl) : Option (Int × PPt) :=
 bnd (YU a0.1) fun r0 =>
 bif r0.2.2 then
 some (1, r0.1, r0.2.1)
 else
 some (0, 0, 0)
theorem zkC (k:Nat) (YU:LPt→Option (Int×Int×Bool)) (a0:TPl):zN [⟨147,[.d kLP],[kI,kI,.bool],fun x=>YU x,none⟩] tb k Tryz.f111 zeN [.d kPl] [.pair kI kPP] a0=zbe k YU a0:=by kernel_rfl
def Kh (k:Nat) (a0:TPl):Option (Int×PPt):=zbe k (Q0 k) a0
theorem zgZ (k:Nat):zv Tryz.prog 111 [.d kPl] [.pair kI kPP] (fun x=>Kh k x):=fun x y h=>zg zO mix (zp.cons (ze.of rfl (zg7 k)) (zp.nil _)) Tryz.func111 (N:=k) (an:=zeN) (by kernel_rfl) x y ((zkC k (Q0 k) x).trans h)
def zhl:Ann:=uNn uLf (uNn (.reg none [(3,5)]) uLf)
def qS (k : Nat) (a0 : TPl) : Option LPt :=
 gd (few (0 + a0.2.1.length)) <|
 gd (few (([] ++ a0.2.1).length + a0.2.2.length)) <|
 some (([] ++ a0.2.1) ++ a0.2.2)
theorem zmI (k:Nat) (a0:TPl):zN [] tb k Tryz.f148 zhl [.d kPl] [.sl kPP] a0=qS k a0:=by kernel_rfl
theorem Ks (k:Nat):zv Tryz.prog 148 [.d kPl] [.sl kPP] (fun x=>qS k x):=fun x y h=>zg zO mix (zp.nil _) Tryz.func148 (N:=k) (an:=zhl) (by kernel_rfl) x y ((zmI k x).trans h)
def zeb:Ann:=uNn uLf (uNn (uNn uLf (uNn (.node none (some [(2,.box [.d (.pair kI kPP)]),(6,.d kLP),(7,.d kI),(8,.d kI)]) uLf uLf) uLf)) uLf)
def zbk (k : Nat) (qC : TPl → Option LPt) (a0 : TPl) : Option (Int × PPt) :=
 bnd (qC (a0.1, a0.2.1, a0.2.2)) fun r0 =>
 zA (α := ((Int × PPt) × (LPt × PPt))) (fun (x2, x3, x4, x5) next1 =>
 bif decide (x5 < x4) then
 gd (inb x5 x3.length) <|
 bif decide ((rdD (0, 0) x3 x5).1 = (rdD (0, 0) x3 x5).2) then
 some (2, x5, 0)
 else
 next1 ((x2.1, x2.2.1, x2.2.2), x3, x4, w64 (x5 + 1))
 else
 some (0, 0, 0)) k ((0, 0, 0), r0, (r0.length : Int), 0)
theorem zjj (k:Nat) (qC:TPl→Option LPt) (a0:TPl):zN [⟨148,[.d kPl],[.sl kPP],fun x=>qC x,none⟩] tb k Tryz.f112 zeb [.d kPl] [.pair kI kPP] a0=zbk k qC a0:=by kernel_rfl
def Kf (k:Nat) (a0:TPl):Option (Int×PPt):=zbk k (qS k) a0
theorem zgY (k:Nat):zv Tryz.prog 112 [.d kPl] [.pair kI kPP] (fun x=>Kf k x):=fun x y h=>zg zO mix (zp.cons (ze.of rfl (Ks k)) (zp.nil _)) Tryz.func112 (N:=k) (an:=zeb) (by kernel_rfl) x y ((zjj k (qS k) x).trans h)
def zfB:Ann:=uLf
def jX (k : Nat) (a0 : TPl) (a1 : PPt) : Option (PPt × PPt) :=
 gd (inb a1.1 a0.1.length) <|
 gd (inb a1.2 a0.1.length) <|
 some (((rdD (0, 0) a0.1 a1.1).1, (rdD (0, 0) a0.1 a1.1).2), (rdD (0, 0) a0.1 a1.2).1, (rdD (0, 0) a0.1 a1.2).2)
theorem zld (k:Nat) (a0:TPl) (a1:PPt):zN [] tb k Tryz.f149 zfB [.d kPl,.d kPP] [.pair kPP kPP] (a0,a1)=jX k a0 a1:=by kernel_rfl
theorem zbM (k:Nat):zv Tryz.prog 149 [.d kPl,.d kPP] [.pair kPP kPP] (fun x=>jX k (x.1) (x.2)):=fun x y h=>zg zO mix (zp.nil _) Tryz.func149 (N:=k) (an:=zfB) (by kernel_rfl) x y ((zld k (x.1) (x.2)).trans h)
def zgv:Ann:=uNn uLf (uNn (uNn uLf (uNn (.node none (some [(5,.d kLP),(6,.d kI),(7,.d kI)]) (uNn uLf (uNn uLf (uNn (uNn (uNn uLf (uNn (.node (some [(5,.d kLP),(6,.d kI),(7,.d kI),(28,.d .bool)]) none uLf uLf) uLf)) uLf) uLf))) uLf) uLf)) uLf)
def qt (k : Nat) (a0 : LPt) : Option Bool :=
 zA (α := (LPt × PPt)) (fun (x1, x2, x3) next0 =>
 bif decide (x3 < x2) then
 gd (inb x3 x1.length) <|
 zz (α := (LPt × (Int × (Int × Bool)))) (fun (y4, y5, y6, y7) =>
 bif y7 then
 some false
 else
 next0 (y4, y5, w64 (y6 + 1))) fun j8 =>
 bif decide ((rdD (0, 0) x1 x3).1 < (-4294967296)) then
 j8 (x1, x2, x3, true)
 else
 bif decide ((rdD (0, 0) x1 x3).1 > 4294967296) then
 j8 (x1, x2, x3, true)
 else
 bif decide ((rdD (0, 0) x1 x3).2 < (-4294967296)) then
 j8 (x1, x2, x3, true)
 else
 j8 (x1, x2, x3, decide ((rdD (0, 0) x1 x3).2 > 4294967296))
 else
 some true) k (a0, (a0.length : Int), 0)
theorem znp (k:Nat) (a0:LPt):zN [] tb k Tryz.f108 zgv [.d kLP] [.bool] a0=qt k a0:=by kernel_rfl
theorem jO (k:Nat):zv Tryz.prog 108 [.d kLP] [.bool] (fun x=>qt k x):=fun x y h=>zg zO mix (zp.nil _) Tryz.func108 (N:=k) (an:=zgv) (by kernel_rfl) x y ((znp k x).trans h)
def zfz:Ann:=uNn uLf (uNn uLf (uNn (uNn uLf (uNn (.node none (some [(3,.d kI),(6,.d (.sl .bool)),(7,.d kI),(8,.d kI)]) (uNn uLf (uNn uLf (uNn (uNn (uNn uLf (uNn uLf (.node (some [(3,.d kI),(6,.d (.sl .bool)),(7,.d kI),(8,.d kI)]) none uLf uLf))) uLf) uLf))) uLf) uLf)) uLf))
def JI (k : Nat) (a0 : (List Bool)) : Option Int :=
 zA (α := (Int × ((List Bool) × PPt))) (fun (x1, x2, x3, x4) next0 =>
 bif decide (x4 < x3) then
 gd (inb x4 x2.length) <|
 zz (α := (Int × ((List Bool) × PPt))) (fun (y5, y6, y7, y8) =>
 next0 (y5, y6, y7, w64 (y8 + 1))) fun j9 =>
 bif rdD false x2 x4 then
 j9 (w64 (x1 + 1), x2, x3, x4)
 else
 j9 (x1, x2, x3, x4)
 else
 some x1) k (0, a0, (a0.length : Int), 0)
theorem zk2 (k:Nat) (a0:(List Bool)):zN [] tb k Tryz.f120 zfz [.d (.sl .bool)] [kI] a0=JI k a0:=by kernel_rfl
theorem zh2 (k:Nat):zv Tryz.prog 120 [.d (.sl .bool)] [kI] (fun x=>JI k x):=fun x y h=>zg zO mix (zp.nil _) Tryz.func120 (N:=k) (an:=zfz) (by kernel_rfl) x y ((zk2 k x).trans h)
def zgS:Ann:=uLf
def QJ (k : Nat) (a0 : Int) : Option Int :=
 some (IntKind.wrap .u64 (mxI a0 (w64 (0 - a0))))
theorem zne (k:Nat) (a0:Int):zN [] tb k Tryz.f164 zgS [.d kI] [.int .u64] a0=QJ k a0:=by kernel_rfl
theorem zdd (k:Nat):zv Tryz.prog 164 [.d kI] [.int .u64] (fun x=>QJ k x):=fun x y h=>zg zO mix (zp.nil _) Tryz.func164 (N:=k) (an:=zgS) (by kernel_rfl) x y ((zne k x).trans h)
def zfo:Ann:=uNn uLf (uNn (uNn uLf (uNn (.node none (some [(5,.d (.sl kI)),(6,.d kI),(7,.d kI)]) uLf uLf) uLf)) uLf)
def zcR (k : Nat) (ZC : Int → Option Int) (a0 : (List Int)) : Option Bool :=
 zA (α := ((List Int) × PPt)) (fun (x1, x2, x3) next0 =>
 bif decide (x3 < x2) then
 gd (inb x3 x1.length) <|
 bnd (ZC (rdD 0 x1 x3)) fun r4 =>
 bif decide (r4 ≥ 1073741824) then
 some false
 else
 next0 (x1, x2, w64 (x3 + 1))
 else
 some true) k (a0, (a0.length : Int), 0)
theorem zk3 (k:Nat) (ZC:Int→Option Int) (a0:(List Int)):zN [⟨164,[.d kI],[.int .u64],fun x=>ZC x,none⟩] tb k Tryz.f144 zfo [.d (.sl kI)] [.bool] a0=zcR k ZC a0:=by kernel_rfl
def KY (k:Nat) (a0:(List Int)):Option Bool:=zcR k (QJ k) a0
theorem zhU (k:Nat):zv Tryz.prog 144 [.d (.sl kI)] [.bool] (fun x=>KY k x):=fun x y h=>zg zO mix (zp.cons (ze.of rfl (zdd k)) (zp.nil _)) Tryz.func144 (N:=k) (an:=zfo) (by kernel_rfl) x y ((zk3 k (QJ k) x).trans h)
def zfC:Ann:=uLf
def JP (k : Nat) (a0 : Int) (a1 : Int) : Option PPt :=
 some (IntKind.wrap .u64 ((IntKind.wrap .u64 ((IntKind.wrap .u64 ((zid .u64 a0 32) * (zid .u64 a1 32))) + (zid .u64 (IntKind.wrap .u64 ((IntKind.wrap .u64 ((zid .u64 a0 32) * (zfh .and .u64 a1 4294967295))) + (zid .u64 (IntKind.wrap .u64 ((zfh .and .u64 a0 4294967295) * (zfh .and .u64 a1 4294967295))) 32))) 32))) + (zid .u64 (IntKind.wrap .u64 ((zfh .and .u64 (IntKind.wrap .u64 ((IntKind.wrap .u64 ((zid .u64 a0 32) * (zfh .and .u64 a1 4294967295))) + (zid .u64 (IntKind.wrap .u64 ((zfh .and .u64 a0 4294967295) * (zfh .and .u64 a1 4294967295))) 32))) 4294967295) + (IntKind.wrap .u64 ((zfh .and .u64 a0 4294967295) * (zid .u64 a1 32))))) 32)), IntKind.wrap .u64 (a0 * a1))
theorem zkZ (k:Nat) (a0:Int) (a1:Int):zN [] tb k Tryz.f176 zfC [.d (.int .u64),.d (.int .u64)] [.int .u64,.int .u64] (a0,a1)=JP k a0 a1:=by kernel_rfl
theorem zif (k:Nat):zv Tryz.prog 176 [.d (.int .u64),.d (.int .u64)] [.int .u64,.int .u64] (fun x=>JP k (x.1) (x.2)):=fun x y h=>zg zO mix (zp.nil _) Tryz.func176 (N:=k) (an:=zfC) (by kernel_rfl) x y ((zkZ k (x.1) (x.2)).trans h)
def zdb:Ann:=uNn uLf (uNn uLf (uNn uLf (uNn (.node (some [(4,.box [.d (.pair .bool (.pair (.int .u64) (.pair (.int .u64) (.pair (.int .u64) (.int .u64)))))])]) none uLf uLf) uLf)))
def zaG (k : Nat) (ZC : Int → Option Int) (XW : Int → Int → Option PPt) (a0 : Int) (a1 : Int) : Option (Bool × (Int × (Int × PPt))) :=
 bnd (ZC a0) fun r0 =>
 bnd (ZC a1) fun r1 =>
 bnd (XW r0 r1) fun r2 =>
 zz (α := (Bool × (Int × (Int × PPt)))) (fun (y3, y4, y5, y6, y7) =>
 some (y3, y4, y5, y6, y7)) fun j8 =>
 bif !((decide (a0 < 0)) == (decide (a1 < 0))) then
 j8 (!(decide ((zfh .or .u64 r2.1 r2.2) = 0)), r2.2, r2.1, 0, 0)
 else
 j8 (false, r2.2, r2.1, 0, 0)
theorem ziI (k:Nat) (ZC:Int→Option Int) (XW:Int→Int→Option PPt) (a0:Int) (a1:Int):zN [⟨164,[.d kI],[.int .u64],fun x=>ZC x,none⟩,⟨176,[.d (.int .u64),.d (.int .u64)],[.int .u64,.int .u64],fun x=>XW (x.1) (x.2),none⟩] tb k Tryz.f165 zdb [.d kI,.d kI] [.pair .bool (.pair (.int .u64) (.pair (.int .u64) (.pair (.int .u64) (.int .u64))))] (a0,a1)=zaG k ZC XW a0 a1:=by kernel_rfl
def Jt (k:Nat) (a0:Int) (a1:Int):Option (Bool×(Int×(Int×PPt))):=zaG k (QJ k) (JP k) a0 a1
theorem zfR (k:Nat):zv Tryz.prog 165 [.d kI,.d kI] [.pair .bool (.pair (.int .u64) (.pair (.int .u64) (.pair (.int .u64) (.int .u64))))] (fun x=>Jt k (x.1) (x.2)):=fun x y h=>zg zO mix (zp.cons (ze.of rfl (zdd k)) (zp.cons (ze.of rfl (zif k)) (zp.nil _))) Tryz.func165 (N:=k) (an:=zdb) (by kernel_rfl) x y ((ziI k (QJ k) (JP k) (x.1) (x.2)).trans h)
def zgD:Ann:=uLf
def Xm (k : Nat) (a0 : (Int × (Int × PPt))) : Option Bool :=
 some ((decide (a0.1 = 0)) && ((decide (a0.2.1 = 0)) && ((decide (a0.2.2.1 = 0)) && (decide (a0.2.2.2 = 0)))))
theorem zmW (k:Nat) (a0:(Int×(Int×PPt))):zN [] tb k Tryz.f182 zgD [.d (.pair (.int .u64) (.pair (.int .u64) (.pair (.int .u64) (.int .u64))))] [.bool] a0=Xm k a0:=by kernel_rfl
theorem ziU (k:Nat):zv Tryz.prog 182 [.d (.pair (.int .u64) (.pair (.int .u64) (.pair (.int .u64) (.int .u64))))] [.bool] (fun x=>Xm k x):=fun x y h=>zg zO mix (zp.nil _) Tryz.func182 (N:=k) (an:=zgD) (by kernel_rfl) x y ((zmW k x).trans h)
def zgM:Ann:=uLf
def zer (k : Nat) (zaY : (Int × (Int × PPt)) → Option Bool) (a0 : (Bool × (Int × (Int × PPt)))) : Option Int :=
 bnd (zaY (a0.2.1, a0.2.2.1, a0.2.2.2.1, a0.2.2.2.2)) fun r0 =>
 bif r0 then
 some 0
 else
 bif a0.1 then
 some (-1)
 else
 some 1
theorem zny (k:Nat) (zaY:(Int×(Int×PPt))→Option Bool) (a0:(Bool×(Int×(Int×PPt)))):zN [⟨182,[.d (.pair (.int .u64) (.pair (.int .u64) (.pair (.int .u64) (.int .u64))))],[.bool],fun x=>zaY x,none⟩] tb k Tryz.f177 zgM [.d (.pair .bool (.pair (.int .u64) (.pair (.int .u64) (.pair (.int .u64) (.int .u64)))))] [kI] a0=zer k zaY a0:=by kernel_rfl
def Xc (k:Nat) (a0:(Bool×(Int×(Int×PPt)))):Option Int:=zer k (Xm k) a0
theorem ziG (k:Nat):zv Tryz.prog 177 [.d (.pair .bool (.pair (.int .u64) (.pair (.int .u64) (.pair (.int .u64) (.int .u64)))))] [kI] (fun x=>Xc k x):=fun x y h=>zg zO mix (zp.cons (ze.of rfl (ziU k)) (zp.nil _)) Tryz.func177 (N:=k) (an:=zgM) (by kernel_rfl) x y ((zny k (Xm k) x).trans h)
def XE:Ann:=uLf
def ZH (k : Nat) (a0 : Int) : Option Bool :=
 some (!(decide (a0 = a0)))
theorem zfc (k:Nat) (a0:Int):zN [] tb k Tryz.f185 XE [.d (.int .u64)] [.bool] a0=ZH k a0:=by kernel_rfl
theorem zcL (k:Nat):zv Tryz.prog 185 [.d (.int .u64)] [.bool] (fun x=>ZH k x):=fun x y h=>zg zO mix (zp.nil _) Tryz.func185 (N:=k) (an:=XE) (by kernel_rfl) x y ((zfc k x).trans h)
def Yr:Ann:=uLf
def Jv (k : Nat) (ZI : Int → Option Bool) (a0 : Int) (a1 : Int) : Option Int :=
 bnd (ZI a0) fun r0 =>
 bnd (ZI a1) fun r1 =>
 bif r0 then
 bif r1 then
 some 0
 else
 some (-1)
 else
 bif r1 then
 some 1
 else
 bif decide (a0 < a1) then
 some (-1)
 else
 bif decide (a0 > a1) then
 some 1
 else
 some 0
theorem zdt (k:Nat) (ZI:Int→Option Bool) (a0:Int) (a1:Int):zN [⟨185,[.d (.int .u64)],[.bool],fun x=>ZI x,none⟩] tb k Tryz.f183 Yr [.d (.int .u64),.d (.int .u64)] [kI] (a0,a1)=Jv k ZI a0 a1:=by kernel_rfl
def j0 (k:Nat) (a0:Int) (a1:Int):Option Int:=Jv k (ZH k) a0 a1
theorem zbm (k:Nat):zv Tryz.prog 183 [.d (.int .u64),.d (.int .u64)] [kI] (fun x=>j0 k (x.1) (x.2)):=fun x y h=>zg zO mix (zp.cons (ze.of rfl (zcL k)) (zp.nil _)) Tryz.func183 (N:=k) (an:=Yr) (by kernel_rfl) x y ((zdt k (ZH k) (x.1) (x.2)).trans h)
def zhh:Ann:=uNn uLf (uNn (uNn uLf (uNn (.node none (some [(2,.box [.d (.pair (.int .u64) (.pair (.int .u64) (.pair (.int .u64) (.int .u64))))]),(3,.box [.d (.pair (.int .u64) (.pair (.int .u64) (.pair (.int .u64) (.int .u64))))]),(5,.d kI)]) uLf uLf) uLf)) uLf)
def zdR (k : Nat) (zd : Int → Int → Option Int) (a0 : (Int × (Int × PPt))) (a1 : (Int × (Int × PPt))) : Option Int :=
 zA (α := ((Int × (Int × PPt)) × ((Int × (Int × PPt)) × Int))) (fun (x1, x2, x3) next0 =>
 bif decide (x3 ≥ 0) then
 bif decide (x3 = 0) then
 bif decide (x3 = 0) then
 bif !(decide (x1.1 = x2.1)) then
 bif decide (x3 = 0) then
 bif decide (x3 = 0) then
 bnd (zd x1.1 x2.1) fun r4 =>
 some r4
 else
 bif decide (x3 = 1) then
 bnd (zd x1.1 x2.2.1) fun r5 =>
 some r5
 else
 bif decide (x3 = 2) then
 bnd (zd x1.1 x2.2.2.1) fun r6 =>
 some r6
 else
 bif decide (x3 = 3) then
 bnd (zd x1.1 x2.2.2.2) fun r7 =>
 some r7
 else
 none
 else
 bif decide (x3 = 1) then
 bif decide (x3 = 0) then
 bnd (zd x1.2.1 x2.1) fun r8 =>
 some r8
 else
 bif decide (x3 = 1) then
 bnd (zd x1.2.1 x2.2.1) fun r9 =>
 some r9
 else
 bif decide (x3 = 2) then
 bnd (zd x1.2.1 x2.2.2.1) fun r10 =>
 some r10
 else
 bif decide (x3 = 3) then
 bnd (zd x1.2.1 x2.2.2.2) fun r11 =>
 some r11
 else
 none
 else
 bif decide (x3 = 2) then
 bif decide (x3 = 0) then
 bnd (zd x1.2.2.1 x2.1) fun r12 =>
 some r12
 else
 bif decide (x3 = 1) then
 bnd (zd x1.2.2.1 x2.2.1) fun r13 =>
 some r13
 else
 bif decide (x3 = 2) then
 bnd (zd x1.2.2.1 x2.2.2.1) fun r14 =>
 some r14
 else
 bif decide (x3 = 3) then
 bnd (zd x1.2.2.1 x2.2.2.2) fun r15 =>
 some r15
 else
 none
 else
 bif decide (x3 = 3) then
 bif decide (x3 = 0) then
 bnd (zd x1.2.2.2 x2.1) fun r16 =>
 some r16
 else
 bif decide (x3 = 1) then
 bnd (zd x1.2.2.2 x2.2.1) fun r17 =>
 some r17
 else
 bif decide (x3 = 2) then
 bnd (zd x1.2.2.2 x2.2.2.1) fun r18 =>
 some r18
 else
 bif decide (x3 = 3) then
 bnd (zd x1.2.2.2 x2.2.2.2) fun r19 =>
 some r19
 else
 none
 else
 none
 else
 next0 ((x1.1, x1.2.1, x1.2.2.1, x1.2.2.2), (x2.1, x2.2.1, x2.2.2.1, x2.2.2.2), w64 (x3 - 1))
 else
 bif decide (x3 = 1) then
 bif !(decide (x1.1 = x2.2.1)) then
 bif decide (x3 = 0) then
 bif decide (x3 = 0) then
 bnd (zd x1.1 x2.1) fun r20 =>
 some r20
 else
 bif decide (x3 = 1) then
 bnd (zd x1.1 x2.2.1) fun r21 =>
 some r21
 else
 bif decide (x3 = 2) then
 bnd (zd x1.1 x2.2.2.1) fun r22 =>
 some r22
 else
 bif decide (x3 = 3) then
 bnd (zd x1.1 x2.2.2.2) fun r23 =>
 some r23
 else
 none
 else
 bif decide (x3 = 1) then
 bif decide (x3 = 0) then
 bnd (zd x1.2.1 x2.1) fun r24 =>
 some r24
 else
 bif decide (x3 = 1) then
 bnd (zd x1.2.1 x2.2.1) fun r25 =>
 some r25
 else
 bif decide (x3 = 2) then
 bnd (zd x1.2.1 x2.2.2.1) fun r26 =>
 some r26
 else
 bif decide (x3 = 3) then
 bnd (zd x1.2.1 x2.2.2.2) fun r27 =>
 some r27
 else
 none
 else
 bif decide (x3 = 2) then
 bif decide (x3 = 0) then
 bnd (zd x1.2.2.1 x2.1) fun r28 =>
 some r28
 else
 bif decide (x3 = 1) then
 bnd (zd x1.2.2.1 x2.2.1) fun r29 =>
 some r29
 else
 bif decide (x3 = 2) then
 bnd (zd x1.2.2.1 x2.2.2.1) fun r30 =>
 some r30
 else
 bif decide (x3 = 3) then
 bnd (zd x1.2.2.1 x2.2.2.2) fun r31 =>
 some r31
 else
 none
 else
 bif decide (x3 = 3) then
 bif decide (x3 = 0) then
 bnd (zd x1.2.2.2 x2.1) fun r32 =>
 some r32
 else
 bif decide (x3 = 1) then
 bnd (zd x1.2.2.2 x2.2.1) fun r33 =>
 some r33
 else
 bif decide (x3 = 2) then
 bnd (zd x1.2.2.2 x2.2.2.1) fun r34 =>
 some r34
 else
 bif decide (x3 = 3) then
 bnd (zd x1.2.2.2 x2.2.2.2) fun r35 =>
 some r35
 else
 none
 else
 none
 else
 next0 ((x1.1, x1.2.1, x1.2.2.1, x1.2.2.2), (x2.1, x2.2.1, x2.2.2.1, x2.2.2.2), w64 (x3 - 1))
 else
 bif decide (x3 = 2) then
 bif !(decide (x1.1 = x2.2.2.1)) then
 bif decide (x3 = 0) then
 bif decide (x3 = 0) then
 bnd (zd x1.1 x2.1) fun r36 =>
 some r36
 else
 bif decide (x3 = 1) then
 bnd (zd x1.1 x2.2.1) fun r37 =>
 some r37
 else
 bif decide (x3 = 2) then
 bnd (zd x1.1 x2.2.2.1) fun r38 =>
 some r38
 else
 bif decide (x3 = 3) then
 bnd (zd x1.1 x2.2.2.2) fun r39 =>
 some r39
 else
 none
 else
 bif decide (x3 = 1) then
 bif decide (x3 = 0) then
 bnd (zd x1.2.1 x2.1) fun r40 =>
 some r40
 else
 bif decide (x3 = 1) then
 bnd (zd x1.2.1 x2.2.1) fun r41 =>
 some r41
 else
 bif decide (x3 = 2) then
 bnd (zd x1.2.1 x2.2.2.1) fun r42 =>
 some r42
 else
 bif decide (x3 = 3) then
 bnd (zd x1.2.1 x2.2.2.2) fun r43 =>
 some r43
 else
 none
 else
 bif decide (x3 = 2) then
 bif decide (x3 = 0) then
 bnd (zd x1.2.2.1 x2.1) fun r44 =>
 some r44
 else
 bif decide (x3 = 1) then
 bnd (zd x1.2.2.1 x2.2.1) fun r45 =>
 some r45
 else
 bif decide (x3 = 2) then
 bnd (zd x1.2.2.1 x2.2.2.1) fun r46 =>
 some r46
 else
 bif decide (x3 = 3) then
 bnd (zd x1.2.2.1 x2.2.2.2) fun r47 =>
 some r47
 else
 none
 else
 bif decide (x3 = 3) then
 bif decide (x3 = 0) then
 bnd (zd x1.2.2.2 x2.1) fun r48 =>
 some r48
 else
 bif decide (x3 = 1) then
 bnd (zd x1.2.2.2 x2.2.1) fun r49 =>
 some r49
 else
 bif decide (x3 = 2) then
 bnd (zd x1.2.2.2 x2.2.2.1) fun r50 =>
 some r50
 else
 bif decide (x3 = 3) then
 bnd (zd x1.2.2.2 x2.2.2.2) fun r51 =>
 some r51
 else
 none
 else
 none
 else
 next0 ((x1.1, x1.2.1, x1.2.2.1, x1.2.2.2), (x2.1, x2.2.1, x2.2.2.1, x2.2.2.2), w64 (x3 - 1))
 else
 bif decide (x3 = 3) then
 bif !(decide (x1.1 = x2.2.2.2)) then
 bif decide (x3 = 0) then
 bif decide (x3 = 0) then
 bnd (zd x1.1 x2.1) fun r52 =>
 some r52
 else
 bif decide (x3 = 1) then
 bnd (zd x1.1 x2.2.1) fun r53 =>
 some r53
 else
 bif decide (x3 = 2) then
 bnd (zd x1.1 x2.2.2.1) fun r54 =>
 some r54
 else
 bif decide (x3 = 3) then
 bnd (zd x1.1 x2.2.2.2) fun r55 =>
 some r55
 else
 none
 else
 bif decide (x3 = 1) then
 bif decide (x3 = 0) then
 bnd (zd x1.2.1 x2.1) fun r56 =>
 some r56
 else
 bif decide (x3 = 1) then
 bnd (zd x1.2.1 x2.2.1) fun r57 =>
 some r57
 else
 bif decide (x3 = 2) then
 bnd (zd x1.2.1 x2.2.2.1) fun r58 =>
 some r58
 else
 bif decide (x3 = 3) then
 bnd (zd x1.2.1 x2.2.2.2) fun r59 =>
 some r59
 else
 none
 else
 bif decide (x3 = 2) then
 bif decide (x3 = 0) then
 bnd (zd x1.2.2.1 x2.1) fun r60 =>
 some r60
 else
 bif decide (x3 = 1) then
 bnd (zd x1.2.2.1 x2.2.1) fun r61 =>
 some r61
 else
 bif decide (x3 = 2) then
 bnd (zd x1.2.2.1 x2.2.2.1) fun r62 =>
 some r62
 else
 bif decide (x3 = 3) then
 bnd (zd x1.2.2.1 x2.2.2.2) fun r63 =>
 some r63
 else
 none
 else
 bif decide (x3 = 3) then
 bif decide (x3 = 0) then
 bnd (zd x1.2.2.2 x2.1) fun r64 =>
 some r64
 else
 bif decide (x3 = 1) then
 bnd (zd x1.2.2.2 x2.2.1) fun r65 =>
 some r65
 else
 bif decide (x3 = 2) then
 bnd (zd x1.2.2.2 x2.2.2.1) fun r66 =>
 some r66
 else
 bif decide (x3 = 3) then
 bnd (zd x1.2.2.2 x2.2.2.2) fun r67 =>
 some r67
 else
 none
 else
 none
 else
 next0 ((x1.1, x1.2.1, x1.2.2.1, x1.2.2.2), (x2.1, x2.2.1, x2.2.2.1, x2.2.2.2), w64 (x3 - 1))
 else
 none
 else
 bif decide (x3 = 1) then
 bif decide (x3 = 0) then
 bif !(decide (x1.2.1 = x2.1)) then
 bif decide (x3 = 0) then
 bif decide (x3 = 0) then
 bnd (zd x1.1 x2.1) fun r68 =>
 some r68
 else
 bif decide (x3 = 1) then
 bnd (zd x1.1 x2.2.1) fun r69 =>
 some r69
 else
 bif decide (x3 = 2) then
 bnd (zd x1.1 x2.2.2.1) fun r70 =>
 some r70
 else
 bif decide (x3 = 3) then
 bnd (zd x1.1 x2.2.2.2) fun r71 =>
 some r71
 else
 none
 else
 bif decide (x3 = 1) then
 bif decide (x3 = 0) then
 bnd (zd x1.2.1 x2.1) fun r72 =>
 some r72
 else
 bif decide (x3 = 1) then
 bnd (zd x1.2.1 x2.2.1) fun r73 =>
 some r73
 else
 bif decide (x3 = 2) then
 bnd (zd x1.2.1 x2.2.2.1) fun r74 =>
 some r74
 else
 bif decide (x3 = 3) then
 bnd (zd x1.2.1 x2.2.2.2) fun r75 =>
 some r75
 else
 none
 else
 bif decide (x3 = 2) then
 bif decide (x3 = 0) then
 bnd (zd x1.2.2.1 x2.1) fun r76 =>
 some r76
 else
 bif decide (x3 = 1) then
 bnd (zd x1.2.2.1 x2.2.1) fun r77 =>
 some r77
 else
 bif decide (x3 = 2) then
 bnd (zd x1.2.2.1 x2.2.2.1) fun r78 =>
 some r78
 else
 bif decide (x3 = 3) then
 bnd (zd x1.2.2.1 x2.2.2.2) fun r79 =>
 some r79
 else
 none
 else
 bif decide (x3 = 3) then
 bif decide (x3 = 0) then
 bnd (zd x1.2.2.2 x2.1) fun r80 =>
 some r80
 else
 bif decide (x3 = 1) then
 bnd (zd x1.2.2.2 x2.2.1) fun r81 =>
 some r81
 else
 bif decide (x3 = 2) then
 bnd (zd x1.2.2.2 x2.2.2.1) fun r82 =>
 some r82
 else
 bif decide (x3 = 3) then
 bnd (zd x1.2.2.2 x2.2.2.2) fun r83 =>
 some r83
 else
 none
 else
 none
 else
 next0 ((x1.1, x1.2.1, x1.2.2.1, x1.2.2.2), (x2.1, x2.2.1, x2.2.2.1, x2.2.2.2), w64 (x3 - 1))
 else
 bif decide (x3 = 1) then
 bif !(decide (x1.2.1 = x2.2.1)) then
 bif decide (x3 = 0) then
 bif decide (x3 = 0) then
 bnd (zd x1.1 x2.1) fun r84 =>
 some r84
 else
 bif decide (x3 = 1) then
 bnd (zd x1.1 x2.2.1) fun r85 =>
 some r85
 else
 bif decide (x3 = 2) then
 bnd (zd x1.1 x2.2.2.1) fun r86 =>
 some r86
 else
 bif decide (x3 = 3) then
 bnd (zd x1.1 x2.2.2.2) fun r87 =>
 some r87
 else
 none
 else
 bif decide (x3 = 1) then
 bif decide (x3 = 0) then
 bnd (zd x1.2.1 x2.1) fun r88 =>
 some r88
 else
 bif decide (x3 = 1) then
 bnd (zd x1.2.1 x2.2.1) fun r89 =>
 some r89
 else
 bif decide (x3 = 2) then
 bnd (zd x1.2.1 x2.2.2.1) fun r90 =>
 some r90
 else
 bif decide (x3 = 3) then
 bnd (zd x1.2.1 x2.2.2.2) fun r91 =>
 some r91
 else
 none
 else
 bif decide (x3 = 2) then
 bif decide (x3 = 0) then
 bnd (zd x1.2.2.1 x2.1) fun r92 =>
 some r92
 else
 bif decide (x3 = 1) then
 bnd (zd x1.2.2.1 x2.2.1) fun r93 =>
 some r93
 else
 bif decide (x3 = 2) then
 bnd (zd x1.2.2.1 x2.2.2.1) fun r94 =>
 some r94
 else
 bif decide (x3 = 3) then
 bnd (zd x1.2.2.1 x2.2.2.2) fun r95 =>
 some r95
 else
 none
 else
 bif decide (x3 = 3) then
 bif decide (x3 = 0) then
 bnd (zd x1.2.2.2 x2.1) fun r96 =>
 some r96
 else
 bif decide (x3 = 1) then
 bnd (zd x1.2.2.2 x2.2.1) fun r97 =>
 some r97
 else
 bif decide (x3 = 2) then
 bnd (zd x1.2.2.2 x2.2.2.1) fun r98 =>
 some r98
 else
 bif decide (x3 = 3) then
 bnd (zd x1.2.2.2 x2.2.2.2) fun r99 =>
 some r99
 else
 none
 else
 none
 else
 next0 ((x1.1, x1.2.1, x1.2.2.1, x1.2.2.2), (x2.1, x2.2.1, x2.2.2.1, x2.2.2.2), w64 (x3 - 1))
 else
 bif decide (x3 = 2) then
 bif !(decide (x1.2.1 = x2.2.2.1)) then
 bif decide (x3 = 0) then
 bif decide (x3 = 0) then
 bnd (zd x1.1 x2.1) fun r100 =>
 some r100
 else
 bif decide (x3 = 1) then
 bnd (zd x1.1 x2.2.1) fun r101 =>
 some r101
 else
 bif decide (x3 = 2) then
 bnd (zd x1.1 x2.2.2.1) fun r102 =>
 some r102
 else
 bif decide (x3 = 3) then
 bnd (zd x1.1 x2.2.2.2) fun r103 =>
 some r103
 else
 none
 else
 bif decide (x3 = 1) then
 bif decide (x3 = 0) then
 bnd (zd x1.2.1 x2.1) fun r104 =>
 some r104
 else
 bif decide (x3 = 1) then
 bnd (zd x1.2.1 x2.2.1) fun r105 =>
 some r105
 else
 bif decide (x3 = 2) then
 bnd (zd x1.2.1 x2.2.2.1) fun r106 =>
 some r106
 else
 bif decide (x3 = 3) then
 bnd (zd x1.2.1 x2.2.2.2) fun r107 =>
 some r107
 else
 none
 else
 bif decide (x3 = 2) then
 bif decide (x3 = 0) then
 bnd (zd x1.2.2.1 x2.1) fun r108 =>
 some r108
 else
 bif decide (x3 = 1) then
 bnd (zd x1.2.2.1 x2.2.1) fun r109 =>
 some r109
 else
 bif decide (x3 = 2) then
 bnd (zd x1.2.2.1 x2.2.2.1) fun r110 =>
 some r110
 else
 bif decide (x3 = 3) then
 bnd (zd x1.2.2.1 x2.2.2.2) fun r111 =>
 some r111
 else
 none
 else
 bif decide (x3 = 3) then
 bif decide (x3 = 0) then
 bnd (zd x1.2.2.2 x2.1) fun r112 =>
 some r112
 else
 bif decide (x3 = 1) then
 bnd (zd x1.2.2.2 x2.2.1) fun r113 =>
 some r113
 else
 bif decide (x3 = 2) then
 bnd (zd x1.2.2.2 x2.2.2.1) fun r114 =>
 some r114
 else
 bif decide (x3 = 3) then
 bnd (zd x1.2.2.2 x2.2.2.2) fun r115 =>
 some r115
 else
 none
 else
 none
 else
 next0 ((x1.1, x1.2.1, x1.2.2.1, x1.2.2.2), (x2.1, x2.2.1, x2.2.2.1, x2.2.2.2), w64 (x3 - 1))
 else
 bif decide (x3 = 3) then
 bif !(decide (x1.2.1 = x2.2.2.2)) then
 bif decide (x3 = 0) then
 bif decide (x3 = 0) then
 bnd (zd x1.1 x2.1) fun r116 =>
 some r116
 else
 bif decide (x3 = 1) then
 bnd (zd x1.1 x2.2.1) fun r117 =>
 some r117
 else
 bif decide (x3 = 2) then
 bnd (zd x1.1 x2.2.2.1) fun r118 =>
 some r118
 else
 bif decide (x3 = 3) then
 bnd (zd x1.1 x2.2.2.2) fun r119 =>
 some r119
 else
 none
 else
 bif decide (x3 = 1) then
 bif decide (x3 = 0) then
 bnd (zd x1.2.1 x2.1) fun r120 =>
 some r120
 else
 bif decide (x3 = 1) then
 bnd (zd x1.2.1 x2.2.1) fun r121 =>
 some r121
 else
 bif decide (x3 = 2) then
 bnd (zd x1.2.1 x2.2.2.1) fun r122 =>
 some r122
 else
 bif decide (x3 = 3) then
 bnd (zd x1.2.1 x2.2.2.2) fun r123 =>
 some r123
 else
 none
 else
 bif decide (x3 = 2) then
 bif decide (x3 = 0) then
 bnd (zd x1.2.2.1 x2.1) fun r124 =>
 some r124
 else
 bif decide (x3 = 1) then
 bnd (zd x1.2.2.1 x2.2.1) fun r125 =>
 some r125
 else
 bif decide (x3 = 2) then
 bnd (zd x1.2.2.1 x2.2.2.1) fun r126 =>
 some r126
 else
 bif decide (x3 = 3) then
 bnd (zd x1.2.2.1 x2.2.2.2) fun r127 =>
 some r127
 else
 none
 else
 bif decide (x3 = 3) then
 bif decide (x3 = 0) then
 bnd (zd x1.2.2.2 x2.1) fun r128 =>
 some r128
 else
 bif decide (x3 = 1) then
 bnd (zd x1.2.2.2 x2.2.1) fun r129 =>
 some r129
 else
 bif decide (x3 = 2) then
 bnd (zd x1.2.2.2 x2.2.2.1) fun r130 =>
 some r130
 else
 bif decide (x3 = 3) then
 bnd (zd x1.2.2.2 x2.2.2.2) fun r131 =>
 some r131
 else
 none
 else
 none
 else
 next0 ((x1.1, x1.2.1, x1.2.2.1, x1.2.2.2), (x2.1, x2.2.1, x2.2.2.1, x2.2.2.2), w64 (x3 - 1))
 else
 none
 else
 bif decide (x3 = 2) then
 bif decide (x3 = 0) then
 bif !(decide (x1.2.2.1 = x2.1)) then
 bif decide (x3 = 0) then
 bif decide (x3 = 0) then
 bnd (zd x1.1 x2.1) fun r132 =>
 some r132
 else
 bif decide (x3 = 1) then
 bnd (zd x1.1 x2.2.1) fun r133 =>
 some r133
 else
 bif decide (x3 = 2) then
 bnd (zd x1.1 x2.2.2.1) fun r134 =>
 some r134
 else
 bif decide (x3 = 3) then
 bnd (zd x1.1 x2.2.2.2) fun r135 =>
 some r135
 else
 none
 else
 bif decide (x3 = 1) then
 bif decide (x3 = 0) then
 bnd (zd x1.2.1 x2.1) fun r136 =>
 some r136
 else
 bif decide (x3 = 1) then
 bnd (zd x1.2.1 x2.2.1) fun r137 =>
 some r137
 else
 bif decide (x3 = 2) then
 bnd (zd x1.2.1 x2.2.2.1) fun r138 =>
 some r138
 else
 bif decide (x3 = 3) then
 bnd (zd x1.2.1 x2.2.2.2) fun r139 =>
 some r139
 else
 none
 else
 bif decide (x3 = 2) then
 bif decide (x3 = 0) then
 bnd (zd x1.2.2.1 x2.1) fun r140 =>
 some r140
 else
 bif decide (x3 = 1) then
 bnd (zd x1.2.2.1 x2.2.1) fun r141 =>
 some r141
 else
 bif decide (x3 = 2) then
 bnd (zd x1.2.2.1 x2.2.2.1) fun r142 =>
 some r142
 else
 bif decide (x3 = 3) then
 bnd (zd x1.2.2.1 x2.2.2.2) fun r143 =>
 some r143
 else
 none
 else
 bif decide (x3 = 3) then
 bif decide (x3 = 0) then
 bnd (zd x1.2.2.2 x2.1) fun r144 =>
 some r144
 else
 bif decide (x3 = 1) then
 bnd (zd x1.2.2.2 x2.2.1) fun r145 =>
 some r145
 else
 bif decide (x3 = 2) then
 bnd (zd x1.2.2.2 x2.2.2.1) fun r146 =>
 some r146
 else
 bif decide (x3 = 3) then
 bnd (zd x1.2.2.2 x2.2.2.2) fun r147 =>
 some r147
 else
 none
 else
 none
 else
 next0 ((x1.1, x1.2.1, x1.2.2.1, x1.2.2.2), (x2.1, x2.2.1, x2.2.2.1, x2.2.2.2), w64 (x3 - 1))
 else
 bif decide (x3 = 1) then
 bif !(decide (x1.2.2.1 = x2.2.1)) then
 bif decide (x3 = 0) then
 bif decide (x3 = 0) then
 bnd (zd x1.1 x2.1) fun r148 =>
 some r148
 else
 bif decide (x3 = 1) then
 bnd (zd x1.1 x2.2.1) fun r149 =>
 some r149
 else
 bif decide (x3 = 2) then
 bnd (zd x1.1 x2.2.2.1) fun r150 =>
 some r150
 else
 bif decide (x3 = 3) then
 bnd (zd x1.1 x2.2.2.2) fun r151 =>
 some r151
 else
 none
 else
 bif decide (x3 = 1) then
 bif decide (x3 = 0) then
 bnd (zd x1.2.1 x2.1) fun r152 =>
 some r152
 else
 bif decide (x3 = 1) then
 bnd (zd x1.2.1 x2.2.1) fun r153 =>
 some r153
 else
 bif decide (x3 = 2) then
 bnd (zd x1.2.1 x2.2.2.1) fun r154 =>
 some r154
 else
 bif decide (x3 = 3) then
 bnd (zd x1.2.1 x2.2.2.2) fun r155 =>
 some r155
 else
 none
 else
 bif decide (x3 = 2) then
 bif decide (x3 = 0) then
 bnd (zd x1.2.2.1 x2.1) fun r156 =>
 some r156
 else
 bif decide (x3 = 1) then
 bnd (zd x1.2.2.1 x2.2.1) fun r157 =>
 some r157
 else
 bif decide (x3 = 2) then
 bnd (zd x1.2.2.1 x2.2.2.1) fun r158 =>
 some r158
 else
 bif decide (x3 = 3) then
 bnd (zd x1.2.2.1 x2.2.2.2) fun r159 =>
 some r159
 else
 none
 else
 bif decide (x3 = 3) then
 bif decide (x3 = 0) then
 bnd (zd x1.2.2.2 x2.1) fun r160 =>
 some r160
 else
 bif decide (x3 = 1) then
 bnd (zd x1.2.2.2 x2.2.1) fun r161 =>
 some r161
 else
 bif decide (x3 = 2) then
 bnd (zd x1.2.2.2 x2.2.2.1) fun r162 =>
 some r162
 else
 bif decide (x3 = 3) then
 bnd (zd x1.2.2.2 x2.2.2.2) fun r163 =>
 some r163
 else
 none
 else
 none
 else
 next0 ((x1.1, x1.2.1, x1.2.2.1, x1.2.2.2), (x2.1, x2.2.1, x2.2.2.1, x2.2.2.2), w64 (x3 - 1))
 else
 bif decide (x3 = 2) then
 bif !(decide (x1.2.2.1 = x2.2.2.1)) then
 bif decide (x3 = 0) then
 bif decide (x3 = 0) then
 bnd (zd x1.1 x2.1) fun r164 =>
 some r164
 else
 bif decide (x3 = 1) then
 bnd (zd x1.1 x2.2.1) fun r165 =>
 some r165
 else
 bif decide (x3 = 2) then
 bnd (zd x1.1 x2.2.2.1) fun r166 =>
 some r166
 else
 bif decide (x3 = 3) then
 bnd (zd x1.1 x2.2.2.2) fun r167 =>
 some r167
 else
 none
 else
 bif decide (x3 = 1) then
 bif decide (x3 = 0) then
 bnd (zd x1.2.1 x2.1) fun r168 =>
 some r168
 else
 bif decide (x3 = 1) then
 bnd (zd x1.2.1 x2.2.1) fun r169 =>
 some r169
 else
 bif decide (x3 = 2) then
 bnd (zd x1.2.1 x2.2.2.1) fun r170 =>
 some r170
 else
 bif decide (x3 = 3) then
 bnd (zd x1.2.1 x2.2.2.2) fun r171 =>
 some r171
 else
 none
 else
 bif decide (x3 = 2) then
 bif decide (x3 = 0) then
 bnd (zd x1.2.2.1 x2.1) fun r172 =>
 some r172
 else
 bif decide (x3 = 1) then
 bnd (zd x1.2.2.1 x2.2.1) fun r173 =>
 some r173
 else
 bif decide (x3 = 2) then
 bnd (zd x1.2.2.1 x2.2.2.1) fun r174 =>
 some r174
 else
 bif decide (x3 = 3) then
 bnd (zd x1.2.2.1 x2.2.2.2) fun r175 =>
 some r175
 else
 none
 else
 bif decide (x3 = 3) then
 bif decide (x3 = 0) then
 bnd (zd x1.2.2.2 x2.1) fun r176 =>
 some r176
 else
 bif decide (x3 = 1) then
 bnd (zd x1.2.2.2 x2.2.1) fun r177 =>
 some r177
 else
 bif decide (x3 = 2) then
 bnd (zd x1.2.2.2 x2.2.2.1) fun r178 =>
 some r178
 else
 bif decide (x3 = 3) then
 bnd (zd x1.2.2.2 x2.2.2.2) fun r179 =>
 some r179
 else
 none
 else
 none
 else
 next0 ((x1.1, x1.2.1, x1.2.2.1, x1.2.2.2), (x2.1, x2.2.1, x2.2.2.1, x2.2.2.2), w64 (x3 - 1))
 else
 bif decide (x3 = 3) then
 bif !(decide (x1.2.2.1 = x2.2.2.2)) then
 bif decide (x3 = 0) then
 bif decide (x3 = 0) then
 bnd (zd x1.1 x2.1) fun r180 =>
 some r180
 else
 bif decide (x3 = 1) then
 bnd (zd x1.1 x2.2.1) fun r181 =>
 some r181
 else
 bif decide (x3 = 2) then
 bnd (zd x1.1 x2.2.2.1) fun r182 =>
 some r182
 else
 bif decide (x3 = 3) then
 bnd (zd x1.1 x2.2.2.2) fun r183 =>
 some r183
 else
 none
 else
 bif decide (x3 = 1) then
 bif decide (x3 = 0) then
 bnd (zd x1.2.1 x2.1) fun r184 =>
 some r184
 else
 bif decide (x3 = 1) then
 bnd (zd x1.2.1 x2.2.1) fun r185 =>
 some r185
 else
 bif decide (x3 = 2) then
 bnd (zd x1.2.1 x2.2.2.1) fun r186 =>
 some r186
 else
 bif decide (x3 = 3) then
 bnd (zd x1.2.1 x2.2.2.2) fun r187 =>
 some r187
 else
 none
 else
 bif decide (x3 = 2) then
 bif decide (x3 = 0) then
 bnd (zd x1.2.2.1 x2.1) fun r188 =>
 some r188
 else
 bif decide (x3 = 1) then
 bnd (zd x1.2.2.1 x2.2.1) fun r189 =>
 some r189
 else
 bif decide (x3 = 2) then
 bnd (zd x1.2.2.1 x2.2.2.1) fun r190 =>
 some r190
 else
 bif decide (x3 = 3) then
 bnd (zd x1.2.2.1 x2.2.2.2) fun r191 =>
 some r191
 else
 none
 else
 bif decide (x3 = 3) then
 bif decide (x3 = 0) then
 bnd (zd x1.2.2.2 x2.1) fun r192 =>
 some r192
 else
 bif decide (x3 = 1) then
 bnd (zd x1.2.2.2 x2.2.1) fun r193 =>
 some r193
 else
 bif decide (x3 = 2) then
 bnd (zd x1.2.2.2 x2.2.2.1) fun r194 =>
 some r194
 else
 bif decide (x3 = 3) then
 bnd (zd x1.2.2.2 x2.2.2.2) fun r195 =>
 some r195
 else
 none
 else
 none
 else
 next0 ((x1.1, x1.2.1, x1.2.2.1, x1.2.2.2), (x2.1, x2.2.1, x2.2.2.1, x2.2.2.2), w64 (x3 - 1))
 else
 none
 else
 bif decide (x3 = 3) then
 bif decide (x3 = 0) then
 bif !(decide (x1.2.2.2 = x2.1)) then
 bif decide (x3 = 0) then
 bif decide (x3 = 0) then
 bnd (zd x1.1 x2.1) fun r196 =>
 some r196
 else
 bif decide (x3 = 1) then
 bnd (zd x1.1 x2.2.1) fun r197 =>
 some r197
 else
 bif decide (x3 = 2) then
 bnd (zd x1.1 x2.2.2.1) fun r198 =>
 some r198
 else
 bif decide (x3 = 3) then
 bnd (zd x1.1 x2.2.2.2) fun r199 =>
 some r199
 else
 none
 else
 bif decide (x3 = 1) then
 bif decide (x3 = 0) then
 bnd (zd x1.2.1 x2.1) fun r200 =>
 some r200
 else
 bif decide (x3 = 1) then
 bnd (zd x1.2.1 x2.2.1) fun r201 =>
 some r201
 else
 bif decide (x3 = 2) then
 bnd (zd x1.2.1 x2.2.2.1) fun r202 =>
 some r202
 else
 bif decide (x3 = 3) then
 bnd (zd x1.2.1 x2.2.2.2) fun r203 =>
 some r203
 else
 none
 else
 bif decide (x3 = 2) then
 bif decide (x3 = 0) then
 bnd (zd x1.2.2.1 x2.1) fun r204 =>
 some r204
 else
 bif decide (x3 = 1) then
 bnd (zd x1.2.2.1 x2.2.1) fun r205 =>
 some r205
 else
 bif decide (x3 = 2) then
 bnd (zd x1.2.2.1 x2.2.2.1) fun r206 =>
 some r206
 else
 bif decide (x3 = 3) then
 bnd (zd x1.2.2.1 x2.2.2.2) fun r207 =>
 some r207
 else
 none
 else
 bif decide (x3 = 3) then
 bif decide (x3 = 0) then
 bnd (zd x1.2.2.2 x2.1) fun r208 =>
 some r208
 else
 bif decide (x3 = 1) then
 bnd (zd x1.2.2.2 x2.2.1) fun r209 =>
 some r209
 else
 bif decide (x3 = 2) then
 bnd (zd x1.2.2.2 x2.2.2.1) fun r210 =>
 some r210
 else
 bif decide (x3 = 3) then
 bnd (zd x1.2.2.2 x2.2.2.2) fun r211 =>
 some r211
 else
 none
 else
 none
 else
 next0 ((x1.1, x1.2.1, x1.2.2.1, x1.2.2.2), (x2.1, x2.2.1, x2.2.2.1, x2.2.2.2), w64 (x3 - 1))
 else
 bif decide (x3 = 1) then
 bif !(decide (x1.2.2.2 = x2.2.1)) then
 bif decide (x3 = 0) then
 bif decide (x3 = 0) then
 bnd (zd x1.1 x2.1) fun r212 =>
 some r212
 else
 bif decide (x3 = 1) then
 bnd (zd x1.1 x2.2.1) fun r213 =>
 some r213
 else
 bif decide (x3 = 2) then
 bnd (zd x1.1 x2.2.2.1) fun r214 =>
 some r214
 else
 bif decide (x3 = 3) then
 bnd (zd x1.1 x2.2.2.2) fun r215 =>
 some r215
 else
 none
 else
 bif decide (x3 = 1) then
 bif decide (x3 = 0) then
 bnd (zd x1.2.1 x2.1) fun r216 =>
 some r216
 else
 bif decide (x3 = 1) then
 bnd (zd x1.2.1 x2.2.1) fun r217 =>
 some r217
 else
 bif decide (x3 = 2) then
 bnd (zd x1.2.1 x2.2.2.1) fun r218 =>
 some r218
 else
 bif decide (x3 = 3) then
 bnd (zd x1.2.1 x2.2.2.2) fun r219 =>
 some r219
 else
 none
 else
 bif decide (x3 = 2) then
 bif decide (x3 = 0) then
 bnd (zd x1.2.2.1 x2.1) fun r220 =>
 some r220
 else
 bif decide (x3 = 1) then
 bnd (zd x1.2.2.1 x2.2.1) fun r221 =>
 some r221
 else
 bif decide (x3 = 2) then
 bnd (zd x1.2.2.1 x2.2.2.1) fun r222 =>
 some r222
 else
 bif decide (x3 = 3) then
 bnd (zd x1.2.2.1 x2.2.2.2) fun r223 =>
 some r223
 else
 none
 else
 bif decide (x3 = 3) then
 bif decide (x3 = 0) then
 bnd (zd x1.2.2.2 x2.1) fun r224 =>
 some r224
 else
 bif decide (x3 = 1) then
 bnd (zd x1.2.2.2 x2.2.1) fun r225 =>
 some r225
 else
 bif decide (x3 = 2) then
 bnd (zd x1.2.2.2 x2.2.2.1) fun r226 =>
 some r226
 else
 bif decide (x3 = 3) then
 bnd (zd x1.2.2.2 x2.2.2.2) fun r227 =>
 some r227
 else
 none
 else
 none
 else
 next0 ((x1.1, x1.2.1, x1.2.2.1, x1.2.2.2), (x2.1, x2.2.1, x2.2.2.1, x2.2.2.2), w64 (x3 - 1))
 else
 bif decide (x3 = 2) then
 bif !(decide (x1.2.2.2 = x2.2.2.1)) then
 bif decide (x3 = 0) then
 bif decide (x3 = 0) then
 bnd (zd x1.1 x2.1) fun r228 =>
 some r228
 else
 bif decide (x3 = 1) then
 bnd (zd x1.1 x2.2.1) fun r229 =>
 some r229
 else
 bif decide (x3 = 2) then
 bnd (zd x1.1 x2.2.2.1) fun r230 =>
 some r230
 else
 bif decide (x3 = 3) then
 bnd (zd x1.1 x2.2.2.2) fun r231 =>
 some r231
 else
 none
 else
 bif decide (x3 = 1) then
 bif decide (x3 = 0) then
 bnd (zd x1.2.1 x2.1) fun r232 =>
 some r232
 else
 bif decide (x3 = 1) then
 bnd (zd x1.2.1 x2.2.1) fun r233 =>
 some r233
 else
 bif decide (x3 = 2) then
 bnd (zd x1.2.1 x2.2.2.1) fun r234 =>
 some r234
 else
 bif decide (x3 = 3) then
 bnd (zd x1.2.1 x2.2.2.2) fun r235 =>
 some r235
 else
 none
 else
 bif decide (x3 = 2) then
 bif decide (x3 = 0) then
 bnd (zd x1.2.2.1 x2.1) fun r236 =>
 some r236
 else
 bif decide (x3 = 1) then
 bnd (zd x1.2.2.1 x2.2.1) fun r237 =>
 some r237
 else
 bif decide (x3 = 2) then
 bnd (zd x1.2.2.1 x2.2.2.1) fun r238 =>
 some r238
 else
 bif decide (x3 = 3) then
 bnd (zd x1.2.2.1 x2.2.2.2) fun r239 =>
 some r239
 else
 none
 else
 bif decide (x3 = 3) then
 bif decide (x3 = 0) then
 bnd (zd x1.2.2.2 x2.1) fun r240 =>
 some r240
 else
 bif decide (x3 = 1) then
 bnd (zd x1.2.2.2 x2.2.1) fun r241 =>
 some r241
 else
 bif decide (x3 = 2) then
 bnd (zd x1.2.2.2 x2.2.2.1) fun r242 =>
 some r242
 else
 bif decide (x3 = 3) then
 bnd (zd x1.2.2.2 x2.2.2.2) fun r243 =>
 some r243
 else
 none
 else
 none
 else
 next0 ((x1.1, x1.2.1, x1.2.2.1, x1.2.2.2), (x2.1, x2.2.1, x2.2.2.1, x2.2.2.2), w64 (x3 - 1))
 else
 bif decide (x3 = 3) then
 bif !(decide (x1.2.2.2 = x2.2.2.2)) then
 bif decide (x3 = 0) then
 bif decide (x3 = 0) then
 bnd (zd x1.1 x2.1) fun r244 =>
 some r244
 else
 bif decide (x3 = 1) then
 bnd (zd x1.1 x2.2.1) fun r245 =>
 some r245
 else
 bif decide (x3 = 2) then
 bnd (zd x1.1 x2.2.2.1) fun r246 =>
 some r246
 else
 bif decide (x3 = 3) then
 bnd (zd x1.1 x2.2.2.2) fun r247 =>
 some r247
 else
 none
 else
 bif decide (x3 = 1) then
 bif decide (x3 = 0) then
 bnd (zd x1.2.1 x2.1) fun r248 =>
 some r248
 else
 bif decide (x3 = 1) then
 bnd (zd x1.2.1 x2.2.1) fun r249 =>
 some r249
 else
 bif decide (x3 = 2) then
 bnd (zd x1.2.1 x2.2.2.1) fun r250 =>
 some r250
 else
 bif decide (x3 = 3) then
 bnd (zd x1.2.1 x2.2.2.2) fun r251 =>
 some r251
 else
 none
 else
 bif decide (x3 = 2) then
 bif decide (x3 = 0) then
 bnd (zd x1.2.2.1 x2.1) fun r252 =>
 some r252
 else
 bif decide (x3 = 1) then
 bnd (zd x1.2.2.1 x2.2.1) fun r253 =>
 some r253
 else
 bif decide (x3 = 2) then
 bnd (zd x1.2.2.1 x2.2.2.1) fun r254 =>
 some r254
 else
 bif decide (x3 = 3) then
 bnd (zd x1.2.2.1 x2.2.2.2) fun r255 =>
 some r255
 else
 none
 else
 bif decide (x3 = 3) then
 bif decide (x3 = 0) then
 bnd (zd x1.2.2.2 x2.1) fun r256 =>
 some r256
 else
 bif decide (x3 = 1) then
 bnd (zd x1.2.2.2 x2.2.1) fun r257 =>
 some r257
 else
 bif decide (x3 = 2) then
 bnd (zd x1.2.2.2 x2.2.2.1) fun r258 =>
 some r258
 else
 bif decide (x3 = 3) then
 bnd (zd x1.2.2.2 x2.2.2.2) fun r259 =>
 some r259
 else
 none
 else
 none
 else
 next0 ((x1.1, x1.2.1, x1.2.2.1, x1.2.2.2), (x2.1, x2.2.1, x2.2.2.1, x2.2.2.2), w64 (x3 - 1))
 else
 none
 else
 none
 else
 some 0) k ((a0.1, a0.2.1, a0.2.2.1, a0.2.2.2), (a1.1, a1.2.1, a1.2.2.1, a1.2.2.2), 3)
theorem zmm (k:Nat) (zd:Int→Int→Option Int) (a0:(Int×(Int×PPt))) (a1:(Int×(Int×PPt))):zN [⟨183,[.d (.int .u64),.d (.int .u64)],[kI],fun x=>zd (x.1) (x.2),none⟩] tb k Tryz.f178 zhh [.d (.pair (.int .u64) (.pair (.int .u64) (.pair (.int .u64) (.int .u64)))),.d (.pair (.int .u64) (.pair (.int .u64) (.pair (.int .u64) (.int .u64))))] [kI] (a0,a1)=zdR k zd a0 a1:=by kernel_rfl
def Y8 (k:Nat) (a0:(Int×(Int×PPt))) (a1:(Int×(Int×PPt))):Option Int:=zdR k (j0 k) a0 a1
theorem ziM (k:Nat):zv Tryz.prog 178 [.d (.pair (.int .u64) (.pair (.int .u64) (.pair (.int .u64) (.int .u64)))),.d (.pair (.int .u64) (.pair (.int .u64) (.pair (.int .u64) (.int .u64))))] [kI] (fun x=>Y8 k (x.1) (x.2)):=fun x y h=>zg zO mix (zp.cons (ze.of rfl (zbm k)) (zp.nil _)) Tryz.func178 (N:=k) (an:=zhh) (by kernel_rfl) x y ((zmm k (j0 k) (x.1) (x.2)).trans h)
end
end Go.Proofs.YtpkkcjmblocjdaaGreat.AM
