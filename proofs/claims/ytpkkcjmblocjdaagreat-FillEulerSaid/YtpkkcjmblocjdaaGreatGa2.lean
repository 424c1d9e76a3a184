/- The functions, by their texts: written by a program. -/
import Derived.Test.YtpkkcjmblocjdaaGreatGa1
import Derived.Test.YtpkkcjmblocjdaaGreatCln
set_option linter.unusedVariables false
set_option linter.unusedSimpArgs false
set_option linter.unusedSectionVars false
set_option maxRecDepth 100000
namespace Go.Proofs.YtpkkcjmblocjdaaGreat.AM
open Go.RowKit Go.Proofs
noncomputable section
def zji:Ann:=uNn uLf (uNn (.node (some [(6,.d .bool)]) none uLf uLf) uLf)
def JF (k : Nat) (a0 : Int) (a1 : Int) (a2 : Int) : Option Bool :=
 zx (α := Bool) (fun y0 =>
 some y0) fun j1 =>
 bif decide (a0 ≥ a1) then
 j1 (decide (a0 ≤ a2))
 else
 j1 false
theorem zpG (k:Nat) (a0:Int) (a1:Int) (a2:Int):zN [] tb k Tryz.f146 zji [.d kI,.d kI,.d kI] [.bool] (a0,a1,a2)=JF k a0 a1 a2:=by kernel_rfl
theorem zk0 (k:Nat):zv Tryz.prog 146 [.d kI,.d kI,.d kI] [.bool] (fun x=>JF k (x.1) (x.2.1) (x.2.2)):=fun x y h=>zh zO mix (zo.nil _) Tryz.func146 (N:=k) (an:=zji) (by kernel_rfl) x y ((zpG k (x.1) (x.2.1) (x.2.2)).trans h)
def zeX:Ann:=uNn uLf (uNn (uNn (.node (some [(1,.box [.d kPl]),(24,.d .bool)]) none uLf uLf) uLf) (uNn (uNn uLf (uNn (.node none (some [(1,.box [.d kPl]),(26,.d kLP),(27,.d kI),(28,.d kI)]) (uNn uLf (uNn uLf (uNn (uNn (uNn uLf (uNn (.node (some [(1,.box [.d kPl]),(26,.d kLP),(27,.d kI),(28,.d kI),(41,.d .bool)]) none uLf uLf) uLf)) uLf) uLf))) uLf) uLf)) (uNn (uNn uLf (uNn (.node none (some [(1,.box [.d kPl]),(47,.d (.pair kLP kLP)),(48,.d kI)]) (uNn uLf (uNn uLf (uNn (uNn (uNn (.node (some [(1,.box [.d kPl]),(6,.d kLP),(47,.d (.pair kLP kLP)),(48,.d kI)]) none uLf uLf) (uNn uLf (uNn (.node none (some [(1,.box [.d kPl]),(47,.d (.pair kLP kLP)),(48,.d kI),(51,.d kLP),(52,.d kI),(53,.d kI)]) (uNn uLf (uNn uLf (uNn (uNn (uNn uLf (uNn (.node (some [(1,.box [.d kPl]),(47,.d (.pair kLP kLP)),(48,.d kI),(51,.d kLP),(52,.d kI),(53,.d kI),(74,.d .bool)]) none uLf uLf) uLf)) uLf) uLf))) uLf) uLf))) uLf) uLf))) uLf) uLf)) uLf)))
def zbU (k : Nat) (KR : Int → Int → Int → Option Bool) (a0 : TPl) : Option Int :=
 zx (α := (TPl × Bool)) (fun (y0, y1) =>
 bif y1 then
 some 2
 else
 zw (α := (TPl × (LPt × PPt))) (fun (x3, x4, x5, x6) next2 =>
 bif decide (x6 < x5) then
 gd (inb x6 x4.length) <|
 zx (α := (TPl × (LPt × (Int × (Int × Bool))))) (fun (y7, y8, y9, y10, y11) =>
 bif y11 then
 some 2
 else
 next2 ((y7.1, y7.2.1, y7.2.2), y8, y9, w64 (y10 + 1))) fun j12 =>
 bnd (KR (rdD (0, 0) x4 x6).1 (-1048576) 1048576) fun r13 =>
 bif !r13 then
 j12 ((x3.1, x3.2.1, x3.2.2), x4, x5, x6, true)
 else
 bnd (KR (rdD (0, 0) x4 x6).2 (-1048576) 1048576) fun r14 =>
 j12 ((x3.1, x3.2.1, x3.2.2), x4, x5, x6, !r14)
 else
 zw (α := (TPl × ((LPt × LPt) × Int))) (fun (x16, x17, x18) next15 =>
 bif decide (x18 < 2) then
 zx (α := (TPl × (LPt × ((LPt × LPt) × Int)))) (fun (y19, y20, y21, y22) =>
 zw (α := (TPl × ((LPt × LPt) × (Int × (LPt × PPt))))) (fun (x24, x25, x26, x27, x28, x29) next23 =>
 bif decide (x29 < x28) then
 gd (inb x29 x27.length) <|
 zx (α := (TPl × ((LPt × LPt) × (Int × (LPt × (Int × (Int × Bool))))))) (fun (y30, y31, y32, y33, y34, y35, y36) =>
 bif y36 then
 some 2
 else
 next23 ((y30.1, y30.2.1, y30.2.2), (y31.1, y31.2), y32, y33, y34, w64 (y35 + 1))) fun j37 =>
 bnd (KR (rdD (0, 0) x27 x29).1 0 (w64 ((x24.1.length : Int) - 1))) fun r38 =>
 bif !r38 then
 j37 ((x24.1, x24.2.1, x24.2.2), (x25.1, x25.2), x26, x27, x28, x29, true)
 else
 bnd (KR (rdD (0, 0) x27 x29).2 0 (w64 ((x24.1.length : Int) - 1))) fun r39 =>
 j37 ((x24.1, x24.2.1, x24.2.2), (x25.1, x25.2), x26, x27, x28, x29, !r39)
 else
 next15 ((x24.1, x24.2.1, x24.2.2), (x25.1, x25.2), w64 (x26 + 1))) k ((y19.1, y19.2.1, y19.2.2), (y21.1, y21.2), y22, y20, (y20.length : Int), 0)) fun j40 =>
 bif decide (x18 = 0) then
 j40 ((x16.1, x16.2.1, x16.2.2), x17.1, (x17.1, x17.2), x18)
 else
 bif decide (x18 = 1) then
 j40 ((x16.1, x16.2.1, x16.2.2), x17.2, (x17.1, x17.2), x18)
 else
 none
 else
 some 0) k ((x3.1, x3.2.1, x3.2.2), (x3.2.1, x3.2.2), 0)) k ((y0.1, y0.2.1, y0.2.2), y0.1, (y0.1.length : Int), 0)) fun j41 =>
 bif decide ((a0.1.length : Int) > 200) then
 j41 ((a0.1, a0.2.1, a0.2.2), true)
 else
 bif decide ((a0.2.1.length : Int) > 400) then
 j41 ((a0.1, a0.2.1, a0.2.2), true)
 else
 j41 ((a0.1, a0.2.1, a0.2.2), decide ((a0.2.2.length : Int) > 400))
theorem zlb (k:Nat) (KR:Int→Int→Int→Option Bool) (a0:TPl):zN [⟨146,[.d kI,.d kI,.d kI],[.bool],fun x=>KR (x.1) (x.2.1) (x.2.2),none⟩] tb k Tryz.f110 zeX [.d kPl] [kI] a0=zbU k KR a0:=by kernel_rfl
def Ji (k:Nat) (a0:TPl):Option Int:=zbU k (JF k) a0
theorem zhz (k:Nat):zv Tryz.prog 110 [.d kPl] [kI] (fun x=>Ji k x):=fun x y h=>zh zO mix (zo.cons (ze.of rfl (zk0 k)) (zo.nil _)) Tryz.func110 (N:=k) (an:=zeX) (by kernel_rfl) x y ((zlb k (JF k) x).trans h)
def zgi:Ann:=uNn uLf (uNn (.node (some [(4,.d .bool)]) none uLf uLf) uLf)
def J0 (k : Nat) (a0 : PPt) (a1 : PPt) : Option Bool :=
 zx (α := Bool) (fun y0 =>
 some y0) fun j1 =>
 bif decide (a0.1 < a1.1) then
 j1 true
 else
 bif decide (a0.1 = a1.1) then
 j1 (decide (a0.2 < a1.2))
 else
 j1 false
theorem zl7 (k:Nat) (a0:PPt) (a1:PPt):zN [] tb k Tryz.f181 zgi [.d kPP,.d kPP] [.bool] (a0,a1)=J0 k a0 a1:=by kernel_rfl
theorem zin (k:Nat):zv Tryz.prog 181 [.d kPP,.d kPP] [.bool] (fun x=>J0 k (x.1) (x.2)):=fun x y h=>zh zO mix (zo.nil _) Tryz.func181 (N:=k) (an:=zgi) (by kernel_rfl) x y ((zl7 k (x.1) (x.2)).trans h)
def zce:Ann:=uLf
def XR (k : Nat) (zag : PPt → PPt → Option Bool) (a0 : Int) (a1 : Int) (a2 : LPt) : Option Bool :=
 gd (inb a0 a2.length) <|
 gd (inb a1 a2.length) <|
 bnd (zag ((rdD (0, 0) a2 a0).1, (rdD (0, 0) a2 a0).2) ((rdD (0, 0) a2 a1).1, (rdD (0, 0) a2 a1).2)) fun r0 =>
 some r0
theorem ziS (k:Nat) (zag:PPt→PPt→Option Bool) (a0:Int) (a1:Int) (a2:LPt):zN [⟨181,[.d kPP,.d kPP],[.bool],fun x=>zag (x.1) (x.2),none⟩] tb k Tryz.f180 zce [.d kI,.d kI,.kp kLP] [.bool] (a0,a1,a2)=XR k zag a0 a1 a2:=by kernel_rfl
def Q9 (k:Nat) (a0:Int) (a1:Int) (a2:LPt):Option Bool:=XR k (J0 k) a0 a1 a2
theorem zf0 (k:Nat):zv Tryz.prog 180 [.d kI,.d kI,.kp kLP] [.bool] (fun x=>Q9 k (x.1) (x.2.1) (x.2.2)):=fun x y h=>zh zO mix (zo.cons (ze.of rfl (zin k)) (zo.nil _)) Tryz.func180 (N:=k) (an:=zce) (by kernel_rfl) x y ((ziS k (J0 k) (x.1) (x.2.1) (x.2.2)).trans h)
def za1:Ann:=uNn uLf (uNn uLf (uNn (uNn (.node none (some [(0,.d (.sl kI)),(1,.d (.sl kI)),(2,.fn 180 [] [(.kp kLP)]),(7,.row kI 3)]) (uNn (uNn (.node (some [(0,.d (.sl kI)),(1,.d (.sl kI)),(2,.fn 180 [] [(.kp kLP)]),(7,.row kI 3),(15,.d .bool)]) none uLf uLf) uLf) (uNn (uNn uLf (.node (some [(0,.d (.sl kI)),(1,.d (.sl kI)),(2,.fn 180 [] [(.kp kLP)]),(7,.row kI 3)]) none (.reg none [(5,7)]) (.reg none [(5,7)]))) uLf)) uLf) uLf) uLf))
def Yp (k : Nat) (KM : Int → Int → LPt → Option Bool) (a0 : (List Int)) (a1 : (List Int)) (a2 : (Unit × LPt)) : Option (List Int) :=
 zw (α := ((List Int) × ((List Int) × ((Unit × LPt) × (List Int))))) (fun (x1, x2, x3, x4) next0 =>
 zx (α := ((List Int) × ((List Int) × ((Unit × LPt) × ((List Int) × Bool))))) (fun (y5, y6, y7, y8, y9) =>
 bif y9 then
 gd (inb 0 y6.length) <|
 gd (inb 0 y5.length) <|
 bnd (KM (rdD 0 y6 0) (rdD 0 y5 0) y7.2) fun r10 =>
 zx (α := ((List Int) × ((List Int) × ((Unit × LPt) × (List Int))))) (fun (y11, y12, y13, y14) =>
 next0 (y11, y12, ((), y13.2), y14)) fun j15 =>
 bif r10 then
 gd (inb 0 y6.length) <|
 gd (few (y8.length + 1)) <|
 gd (decide (1 ≤ (y6.length : Int))) <|
 j15 (y5, dpL y6 1, ((), y7.2), y8 ++ [rdD 0 y6 0])
 else
 gd (inb 0 y5.length) <|
 gd (few (y8.length + 1)) <|
 gd (decide (1 ≤ (y5.length : Int))) <|
 j15 (dpL y5 1, y6, ((), y7.2), y8 ++ [rdD 0 y5 0])
 else
 gd (few (y8.length + y5.length)) <|
 gd (few ((y8 ++ y5).length + y6.length)) <|
 some ((y8 ++ y5) ++ y6)) fun j16 =>
 bif decide ((x1.length : Int) > 0) then
 j16 (x1, x2, ((), x3.2), x4, decide ((x2.length : Int) > 0))
 else
 j16 (x1, x2, ((), x3.2), x4, false)) k (a0, a1, ((), a2.2), [])
theorem zgv (k:Nat) (KM:Int→Int→LPt→Option Bool) (a0:(List Int)) (a1:(List Int)) (a2:(Unit×LPt)):zN [⟨180,[.d kI,.d kI,.kp kLP],[.bool],fun x=>KM (x.1) (x.2.1) (x.2.2),none⟩] tb k Tryz.f184 za1 [.d (.sl kI),.d (.sl kI),.fn 180 [] [(.kp kLP)]] [.sl kI] (a0,a1,a2)=Yp k KM a0 a1 a2:=by kernel_rfl
def jh (k:Nat) (a0:(List Int)) (a1:(List Int)) (a2:(Unit×LPt)):Option (List Int):=Yp k (Q9 k) a0 a1 a2
theorem zef (k:Nat):zv Tryz.prog 184 [.d (.sl kI),.d (.sl kI),.fn 180 [] [(.kp kLP)]] [.sl kI] (fun x=>jh k (x.1) (x.2.1) (x.2.2)):=fun x y h=>zh zO mix (zo.cons (ze.of rfl (zf0 k)) (zo.nil _)) Tryz.func184 (N:=k) (an:=za1) (by kernel_rfl) x y ((zgv k (Q9 k) (x.1) (x.2.1) (x.2.2)).trans h)
def zbs:Ann:=uLf
def ZO (k : Nat) (qU : (List Int) → (Unit × LPt) → Option (List Int)) (Jv : (List Int) → (List Int) → (Unit × LPt) → Option (List Int)) (a0 : (List Int)) (a1 : (Unit × LPt)) : Option (List Int) :=
 bif decide ((a0.length : Int) < 2) then
 gd (few a0.length) <|
 some a0
 else
 gd (decide (0 ≤ (w64 ((a0.length : Int).tdiv 2)))) <|
 gd (decide ((w64 ((a0.length : Int).tdiv 2)) ≤ (a0.length : Int))) <|
 bnd (qU (tkL a0 (w64 ((a0.length : Int).tdiv 2))) ((), a1.2)) fun r0 =>
 gd (decide (0 ≤ (w64 ((a0.length : Int).tdiv 2)))) <|
 gd (decide ((w64 ((a0.length : Int).tdiv 2)) ≤ (a0.length : Int))) <|
 bnd (qU (dpL a0 (w64 ((a0.length : Int).tdiv 2))) ((), a1.2)) fun r1 =>
 bnd (Jv r0 r1 ((), a1.2)) fun r2 =>
 some r2
theorem zhI (k:Nat) (qU:(List Int)→(Unit×LPt)→Option (List Int)) (Jv:(List Int)→(List Int)→(Unit×LPt)→Option (List Int)) (a0:(List Int)) (a1:(Unit×LPt)):zN [⟨179,[.d (.sl kI),.fn 180 [] [(.kp kLP)]],[.sl kI],fun x=>qU (x.1) (x.2),none⟩,⟨184,[.d (.sl kI),.d (.sl kI),.fn 180 [] [(.kp kLP)]],[.sl kI],fun x=>Jv (x.1) (x.2.1) (x.2.2),none⟩] tb k Tryz.f179 zbs [.d (.sl kI),.fn 180 [] [(.kp kLP)]] [.sl kI] (a0,a1)=ZO k qU Jv a0 a1:=by kernel_rfl
def jx (k : Nat) : Nat → (List Int) → (Unit × LPt) → Option (List Int)
 | 0 => fun a0 a1 => none
 | n + 1 => fun a0 a1 => ZO k (jx k n) (jh k) a0 a1
def Ka (k:Nat) (a0:(List Int)) (a1:(Unit×LPt)):Option (List Int):=jx k k a0 a1
theorem YL (k : Nat) : ∀ n, zv Tryz.prog 179 [.d (.sl kI), .fn 180 [] [(.kp kLP)]] [.sl kI] (fun x => jx k n (x.1) (x.2))
 | 0 => fun x y h => by cases h
 | n + 1 => fun x y h => zh zO mix (es := [⟨179, [.d (.sl kI), .fn 180 [] [(.kp kLP)]], [.sl kI], fun x => jx k n (x.1) (x.2), none⟩, ⟨184, [.d (.sl kI), .d (.sl kI), .fn 180 [] [(.kp kLP)]], [.sl kI], fun x => jh k (x.1) (x.2.1) (x.2.2), none⟩]) (zo.cons (ze.of rfl (YL k n)) (zo.cons (ze.of rfl (zef k)) (zo.nil _))) Tryz.func179 (N := k) (an := zbs) (by kernel_rfl) x y ((zhI k (jx k n) (jh k) (x.1) (x.2)).trans h)
theorem zei (k:Nat):zv Tryz.prog 179 [.d (.sl kI),.fn 180 [] [(.kp kLP)]] [.sl kI] (fun x=>Ka k (x.1) (x.2)):=YL k k
def zeD:Ann:=uNn uLf (uNn uLf (uNn (uNn uLf (uNn (.node none (some [(1,.box [.d kLP]),(3,.row kI 3),(6,.d kI),(7,.d kI)]) uLf uLf) uLf)) uLf))
def zby (k : Nat) (qU : (List Int) → (Unit × LPt) → Option (List Int)) (a0 : LPt) : Option (List Int) :=
 zw (α := (LPt × ((List Int) × PPt))) (fun (x1, x2, x3, x4) next0 =>
 bif decide (x4 < x3) then
 gd (few (x2.length + 1)) <|
 next0 (x1, x2 ++ [x4], x3, w64 (x4 + 1))
 else
 bnd (qU x2 ((), x1)) fun r5 =>
 some r5) k (a0, [], (a0.length : Int), 0)
theorem zkg (k:Nat) (qU:(List Int)→(Unit×LPt)→Option (List Int)) (a0:LPt):zN [⟨179,[.d (.sl kI),.fn 180 [] [(.kp kLP)]],[.sl kI],fun x=>qU (x.1) (x.2),none⟩] tb k Tryz.f167 zeD [.d kLP] [.sl kI] a0=zby k qU a0:=by kernel_rfl
def Ks (k:Nat) (a0:LPt):Option (List Int):=zby k (Ka k) a0
theorem zhk (k:Nat):zv Tryz.prog 167 [.d kLP] [.sl kI] (fun x=>Ks k x):=fun x y h=>zh zO mix (zo.cons (ze.of rfl (zei k)) (zo.nil _)) Tryz.func167 (N:=k) (an:=zeD) (by kernel_rfl) x y ((zkg k (Ka k) x).trans h)
def zff:Ann:=uNn uLf (uNn uLf (uNn uLf (uNn (uNn uLf (uNn (.node none (some [(0,.d kLP),(5,.d kI),(6,.d kI),(7,.d .bool),(8,.d (.sl kI)),(9,.d kI)]) (uNn uLf (uNn (uNn (uNn uLf (uNn (.node (some [(0,.d kLP),(5,.d kI),(6,.d kI),(7,.d .bool),(8,.d (.sl kI)),(9,.d kI),(10,.d kI),(11,.d kI),(46,.d .bool)]) none uLf uLf) (.node (some [(0,.d kLP),(5,.d kI),(6,.d kI),(7,.d .bool),(8,.d (.sl kI)),(9,.d kI)]) none uLf uLf))) uLf) uLf)) uLf) uLf)) uLf)))
def zbF (k : Nat) (Xj : LPt → Option (List Int)) (a0 : LPt) : Option (Int × Int × Bool) :=
 bnd (Xj a0) fun r0 =>
 zw (α := (LPt × (Int × (Int × (Bool × ((List Int) × Int)))))) (fun (x2, x3, x4, x5, x6, x7) next1 =>
 bif decide (x7 < (x6.length : Int)) then
 gd (inb (w64 (x7 - 1)) x6.length) <|
 gd (inb x7 x6.length) <|
 zx (α := (LPt × (Int × (Int × (Bool × ((List Int) × (Int × (Int × (Int × Bool))))))))) (fun (y8, y9, y10, y11, y12, y13, y14, y15, y16) =>
 zx (α := (LPt × (Int × (Int × (Bool × ((List Int) × Int)))))) (fun (y17, y18, y19, y20, y21, y22) =>
 next1 (y17, y18, y19, y20, y21, w64 (y22 + 1))) fun j23 =>
 bif y16 then
 j23 (y8, y14, y15, true, y12, y13)
 else
 j23 (y8, y9, y10, y11, y12, y13)) fun j24 =>
 gd (inb (rdD 0 x6 (w64 (x7 - 1))) x2.length) <|
 gd (inb (rdD 0 x6 x7) x2.length) <|
 bif (decide ((rdD (0, 0) x2 (rdD 0 x6 (w64 (x7 - 1)))).1 = (rdD (0, 0) x2 (rdD 0 x6 x7)).1)) && (decide ((rdD (0, 0) x2 (rdD 0 x6 (w64 (x7 - 1)))).2 = (rdD (0, 0) x2 (rdD 0 x6 x7)).2)) then
 bif !x5 then
 j24 (x2, x3, x4, x5, x6, x7, rdD 0 x6 (w64 (x7 - 1)), rdD 0 x6 x7, true)
 else
 j24 (x2, x3, x4, x5, x6, x7, rdD 0 x6 (w64 (x7 - 1)), rdD 0 x6 x7, decide ((rdD 0 x6 (w64 (x7 - 1))) < x3))
 else
 j24 (x2, x3, x4, x5, x6, x7, rdD 0 x6 (w64 (x7 - 1)), rdD 0 x6 x7, false)
 else
 some (x3, x4, x5)) k (a0, 0, 0, false, r0, 1)
theorem zk2 (k:Nat) (Xj:LPt→Option (List Int)) (a0:LPt):zN [⟨167,[.d kLP],[.sl kI],fun x=>Xj x,none⟩] tb k Tryz.f147 zff [.d kLP] [kI,kI,.bool] a0=zbF k Xj a0:=by kernel_rfl
def Jj (k:Nat) (a0:LPt):Option (Int×Int×Bool):=zbF k (Ks k) a0
theorem zg8 (k:Nat):zv Tryz.prog 147 [.d kLP] [kI,kI,.bool] (fun x=>Jj k x):=fun x y h=>zh zO mix (zo.cons (ze.of rfl (zhk k)) (zo.nil _)) Tryz.func147 (N:=k) (an:=zff) (by kernel_rfl) x y ((zk2 k (Ks k) x).trans h)
def ze4:Ann:=uLf
def zb1 (k : Nat) (Xe : LPt → Option (Int × Int × Bool)) (a0 : TPl) : Option (Int × PPt) :=
 bnd (Xe a0.1) fun r0 =>
 bif r0.2.2 then
 some (1, r0.1, r0.2.1)
 else
 some (0, 0, 0)
theorem zkv (k:Nat) (Xe:LPt→Option (Int×Int×Bool)) (a0:TPl):zN [⟨147,[.d kLP],[kI,kI,.bool],fun x=>Xe x,none⟩] tb k Tryz.f111 ze4 [.d kPl] [.pair kI kPP] a0=zb1 k Xe a0:=by kernel_rfl
def KE (k:Nat) (a0:TPl):Option (Int×PPt):=zb1 k (Jj k) a0
theorem zhs (k:Nat):zv Tryz.prog 111 [.d kPl] [.pair kI kPP] (fun x=>KE k x):=fun x y h=>zh zO mix (zo.cons (ze.of rfl (zg8 k)) (zo.nil _)) Tryz.func111 (N:=k) (an:=ze4) (by kernel_rfl) x y ((zkv k (Jj k) x).trans h)
def zho:Ann:=uNn uLf (uNn (.reg none [(3,5)]) uLf)
def qW (k : Nat) (a0 : TPl) : Option LPt :=
 gd (few (0 + a0.2.1.length)) <|
 gd (few (([] ++ a0.2.1).length + a0.2.2.length)) <|
 some (([] ++ a0.2.1) ++ a0.2.2)
theorem zon (k:Nat) (a0:TPl):zN [] tb k Tryz.f148 zho [.d kPl] [.sl kPP] a0=qW k a0:=by kernel_rfl
theorem KN (k:Nat):zv Tryz.prog 148 [.d kPl] [.sl kPP] (fun x=>qW k x):=fun x y h=>zh zO mix (zo.nil _) Tryz.func148 (N:=k) (an:=zho) (by kernel_rfl) x y ((zon k x).trans h)
def zeW:Ann:=uNn uLf (uNn (uNn uLf (uNn (.node none (some [(2,.box [.d (.pair kI kPP)]),(6,.d kLP),(7,.d kI),(8,.d kI)]) uLf uLf) uLf)) uLf)
def zbO (k : Nat) (qH : TPl → Option LPt) (a0 : TPl) : Option (Int × PPt) :=
 bnd (qH (a0.1, a0.2.1, a0.2.2)) fun r0 =>
 zw (α := ((Int × PPt) × (LPt × PPt))) (fun (x2, x3, x4, x5) next1 =>
 bif decide (x5 < x4) then
 gd (inb x5 x3.length) <|
 bif decide ((rdD (0, 0) x3 x5).1 = (rdD (0, 0) x3 x5).2) then
 some (2, x5, 0)
 else
 next1 ((x2.1, x2.2.1, x2.2.2), x3, x4, w64 (x5 + 1))
 else
 some (0, 0, 0)) k ((0, 0, 0), r0, (r0.length : Int), 0)
theorem zk1 (k:Nat) (qH:TPl→Option LPt) (a0:TPl):zN [⟨148,[.d kPl],[.sl kPP],fun x=>qH x,none⟩] tb k Tryz.f112 zeW [.d kPl] [.pair kI kPP] a0=zbO k qH a0:=by kernel_rfl
def Ky (k:Nat) (a0:TPl):Option (Int×PPt):=zbO k (qW k) a0
theorem zhV (k:Nat):zv Tryz.prog 112 [.d kPl] [.pair kI kPP] (fun x=>Ky k x):=fun x y h=>zh zO mix (zo.cons (ze.of rfl (KN k)) (zo.nil _)) Tryz.func112 (N:=k) (an:=zeW) (by kernel_rfl) x y ((zk1 k (qW k) x).trans h)
def zgn:Ann:=uLf
def Ze (k : Nat) (a0 : TPl) (a1 : PPt) : Option (PPt × PPt) :=
 gd (inb a1.1 a0.1.length) <|
 gd (inb a1.2 a0.1.length) <|
 some (((rdD (0, 0) a0.1 a1.1).1, (rdD (0, 0) a0.1 a1.1).2), (rdD (0, 0) a0.1 a1.2).1, (rdD (0, 0) a0.1 a1.2).2)
theorem zlQ (k:Nat) (a0:TPl) (a1:PPt):zN [] tb k Tryz.f149 zgn [.d kPl,.d kPP] [.pair kPP kPP] (a0,a1)=Ze k a0 a1:=by kernel_rfl
theorem zcM (k:Nat):zv Tryz.prog 149 [.d kPl,.d kPP] [.pair kPP kPP] (fun x=>Ze k (x.1) (x.2)):=fun x y h=>zh zO mix (zo.nil _) Tryz.func149 (N:=k) (an:=zgn) (by kernel_rfl) x y ((zlQ k (x.1) (x.2)).trans h)
def zhb:Ann:=uNn uLf (uNn (uNn uLf (uNn (.node none (some [(5,.d kLP),(6,.d kI),(7,.d kI)]) (uNn uLf (uNn uLf (uNn (uNn (uNn uLf (uNn (.node (some [(5,.d kLP),(6,.d kI),(7,.d kI),(28,.d .bool)]) none uLf uLf) uLf)) uLf) uLf))) uLf) uLf)) uLf)
def qu (k : Nat) (a0 : LPt) : Option Bool :=
 zw (α := (LPt × PPt)) (fun (x1, x2, x3) next0 =>
 bif decide (x3 < x2) then
 gd (inb x3 x1.length) <|
 zx (α := (LPt × (Int × (Int × Bool)))) (fun (y4, y5, y6, y7) =>
 bif y7 then
 some false
 else
 next0 (y4, y5, w64 (y6 + 1))) fun j8 =>
 bif decide ((rdD (0, 0) x1 x3).1 < (-4294967296)) then
 j8 (x1, x2, x3, true)
 else
 bif decide ((rdD (0, 0) x1 x3).1 > 4294967296) then
 j8 (x1, x2, x3, true)
 else
 bif decide ((rdD (0, 0) x1 x3).2 < (-4294967296)) then
 j8 (x1, x2, x3, true)
 else
 j8 (x1, x2, x3, decide ((rdD (0, 0) x1 x3).2 > 4294967296))
 else
 some true) k (a0, (a0.length : Int), 0)
theorem znA (k:Nat) (a0:LPt):zN [] tb k Tryz.f108 zhb [.d kLP] [.bool] a0=qu k a0:=by kernel_rfl
theorem jX (k:Nat):zv Tryz.prog 108 [.d kLP] [.bool] (fun x=>qu k x):=fun x y h=>zh zO mix (zo.nil _) Tryz.func108 (N:=k) (an:=zhb) (by kernel_rfl) x y ((znA k x).trans h)
def zf8:Ann:=uNn uLf (uNn uLf (uNn (uNn uLf (uNn (.node none (some [(3,.d kI),(6,.d (.sl .bool)),(7,.d kI),(8,.d kI)]) (uNn uLf (uNn uLf (uNn (uNn (uNn uLf (uNn uLf (.node (some [(3,.d kI),(6,.d (.sl .bool)),(7,.d kI),(8,.d kI)]) none uLf uLf))) uLf) uLf))) uLf) uLf)) uLf))
def J5 (k : Nat) (a0 : (List Bool)) : Option Int :=
 zw (α := (Int × ((List Bool) × PPt))) (fun (x1, x2, x3, x4) next0 =>
 bif decide (x4 < x3) then
 gd (inb x4 x2.length) <|
 zx (α := (Int × ((List Bool) × PPt))) (fun (y5, y6, y7, y8) =>
 next0 (y5, y6, y7, w64 (y8 + 1))) fun j9 =>
 bif rdD false x2 x4 then
 j9 (w64 (x1 + 1), x2, x3, x4)
 else
 j9 (x1, x2, x3, x4)
 else
 some x1) k (0, a0, (a0.length : Int), 0)
theorem zlP (k:Nat) (a0:(List Bool)):zN [] tb k Tryz.f120 zf8 [.d (.sl .bool)] [kI] a0=J5 k a0:=by kernel_rfl
theorem zh7 (k:Nat):zv Tryz.prog 120 [.d (.sl .bool)] [kI] (fun x=>J5 k x):=fun x y h=>zh zO mix (zo.nil _) Tryz.func120 (N:=k) (an:=zf8) (by kernel_rfl) x y ((zlP k x).trans h)
def zhH:Ann:=uLf
def QX (k : Nat) (a0 : Int) : Option Int :=
 some (IntKind.wrap .u64 (mxI a0 (w64 (0 - a0))))
theorem zn2 (k:Nat) (a0:Int):zN [] tb k Tryz.f164 zhH [.d kI] [.int .u64] a0=QX k a0:=by kernel_rfl
theorem zdJ (k:Nat):zv Tryz.prog 164 [.d kI] [.int .u64] (fun x=>QX k x):=fun x y h=>zh zO mix (zo.nil _) Tryz.func164 (N:=k) (an:=zhH) (by kernel_rfl) x y ((zn2 k x).trans h)
def zf4:Ann:=uNn uLf (uNn (uNn uLf (uNn (.node none (some [(5,.d (.sl kI)),(6,.d kI),(7,.d kI)]) uLf uLf) uLf)) uLf)
def zdj (k : Nat) (ZK : Int → Option Int) (a0 : (List Int)) : Option Bool :=
 zw (α := ((List Int) × PPt)) (fun (x1, x2, x3) next0 =>
 bif decide (x3 < x2) then
 gd (inb x3 x1.length) <|
 bnd (ZK (rdD 0 x1 x3)) fun r4 =>
 bif decide (r4 ≥ 1073741824) then
 some false
 else
 next0 (x1, x2, w64 (x3 + 1))
 else
 some true) k (a0, (a0.length : Int), 0)
theorem zlZ (k:Nat) (ZK:Int→Option Int) (a0:(List Int)):zN [⟨164,[.d kI],[.int .u64],fun x=>ZK x,none⟩] tb k Tryz.f144 zf4 [.d (.sl kI)] [.bool] a0=zdj k ZK a0:=by kernel_rfl
def Ya (k:Nat) (a0:(List Int)):Option Bool:=zdj k (QX k) a0
theorem zil (k:Nat):zv Tryz.prog 144 [.d (.sl kI)] [.bool] (fun x=>Ya k x):=fun x y h=>zh zO mix (zo.cons (ze.of rfl (zdJ k)) (zo.nil _)) Tryz.func144 (N:=k) (an:=zf4) (by kernel_rfl) x y ((zlZ k (QX k) x).trans h)
def zgk:Ann:=uLf
def J7 (k : Nat) (a0 : Int) (a1 : Int) : Option PPt :=
 some (IntKind.wrap .u64 ((IntKind.wrap .u64 ((IntKind.wrap .u64 ((zir .u64 a0 32) * (zir .u64 a1 32))) + (zir .u64 (IntKind.wrap .u64 ((IntKind.wrap .u64 ((zir .u64 a0 32) * (zfV .and .u64 a1 4294967295))) + (zir .u64 (IntKind.wrap .u64 ((zfV .and .u64 a0 4294967295) * (zfV .and .u64 a1 4294967295))) 32))) 32))) + (zir .u64 (IntKind.wrap .u64 ((zfV .and .u64 (IntKind.wrap .u64 ((IntKind.wrap .u64 ((zir .u64 a0 32) * (zfV .and .u64 a1 4294967295))) + (zir .u64 (IntKind.wrap .u64 ((zfV .and .u64 a0 4294967295) * (zfV .and .u64 a1 4294967295))) 32))) 4294967295) + (IntKind.wrap .u64 ((zfV .and .u64 a0 4294967295) * (zir .u64 a1 32))))) 32)), IntKind.wrap .u64 (a0 * a1))
theorem zlK (k:Nat) (a0:Int) (a1:Int):zN [] tb k Tryz.f176 zgk [.d (.int .u64),.d (.int .u64)] [.int .u64,.int .u64] (a0,a1)=J7 k a0 a1:=by kernel_rfl
theorem zh9 (k:Nat):zv Tryz.prog 176 [.d (.int .u64),.d (.int .u64)] [.int .u64,.int .u64] (fun x=>J7 k (x.1) (x.2)):=fun x y h=>zh zO mix (zo.nil _) Tryz.func176 (N:=k) (an:=zgk) (by kernel_rfl) x y ((zlK k (x.1) (x.2)).trans h)
def zdI:Ann:=uNn uLf (uNn uLf (uNn uLf (uNn (.node (some [(4,.box [.d (.pair .bool (.pair (.int .u64) (.pair (.int .u64) (.pair (.int .u64) (.int .u64)))))])]) none uLf uLf) uLf)))
def za2 (k : Nat) (ZK : Int → Option Int) (zae : Int → Int → Option PPt) (a0 : Int) (a1 : Int) : Option (Bool × (Int × (Int × PPt))) :=
 bnd (ZK a0) fun r0 =>
 bnd (ZK a1) fun r1 =>
 bnd (zae r0 r1) fun r2 =>
 zx (α := (Bool × (Int × (Int × PPt)))) (fun (y3, y4, y5, y6, y7) =>
 some (y3, y4, y5, y6, y7)) fun j8 =>
 bif !((decide (a0 < 0)) == (decide (a1 < 0))) then
 j8 (!(decide ((zfV .or .u64 r2.1 r2.2) = 0)), r2.2, r2.1, 0, 0)
 else
 j8 (false, r2.2, r2.1, 0, 0)
theorem zjB (k:Nat) (ZK:Int→Option Int) (zae:Int→Int→Option PPt) (a0:Int) (a1:Int):zN [⟨164,[.d kI],[.int .u64],fun x=>ZK x,none⟩,⟨176,[.d (.int .u64),.d (.int .u64)],[.int .u64,.int .u64],fun x=>zae (x.1) (x.2),none⟩] tb k Tryz.f165 zdI [.d kI,.d kI] [.pair .bool (.pair (.int .u64) (.pair (.int .u64) (.pair (.int .u64) (.int .u64))))] (a0,a1)=za2 k ZK zae a0 a1:=by kernel_rfl
def JG (k:Nat) (a0:Int) (a1:Int):Option (Bool×(Int×(Int×PPt))):=za2 k (QX k) (J7 k) a0 a1
theorem zgu (k:Nat):zv Tryz.prog 165 [.d kI,.d kI] [.pair .bool (.pair (.int .u64) (.pair (.int .u64) (.pair (.int .u64) (.int .u64))))] (fun x=>JG k (x.1) (x.2)):=fun x y h=>zh zO mix (zo.cons (ze.of rfl (zdJ k)) (zo.cons (ze.of rfl (zh9 k)) (zo.nil _))) Tryz.func165 (N:=k) (an:=zdI) (by kernel_rfl) x y ((zjB k (QX k) (J7 k) (x.1) (x.2)).trans h)
def zg7:Ann:=uLf
def Xu (k : Nat) (a0 : (Int × (Int × PPt))) : Option Bool :=
 some ((decide (a0.1 = 0)) && ((decide (a0.2.1 = 0)) && ((decide (a0.2.2.1 = 0)) && (decide (a0.2.2.2 = 0)))))
theorem zoo (k:Nat) (a0:(Int×(Int×PPt))):zN [] tb k Tryz.f182 zg7 [.d (.pair (.int .u64) (.pair (.int .u64) (.pair (.int .u64) (.int .u64))))] [.bool] a0=Xu k a0:=by kernel_rfl
theorem zjq (k:Nat):zv Tryz.prog 182 [.d (.pair (.int .u64) (.pair (.int .u64) (.pair (.int .u64) (.int .u64))))] [.bool] (fun x=>Xu k x):=fun x y h=>zh zO mix (zo.nil _) Tryz.func182 (N:=k) (an:=zg7) (by kernel_rfl) x y ((zoo k x).trans h)
def zh6:Ann:=uLf
def ze0 (k : Nat) (zbt : (Int × (Int × PPt)) → Option Bool) (a0 : (Bool × (Int × (Int × PPt)))) : Option Int :=
 bnd (zbt (a0.2.1, a0.2.2.1, a0.2.2.2.1, a0.2.2.2.2)) fun r0 =>
 bif r0 then
 some 0
 else
 bif a0.1 then
 some (-1)
 else
 some 1
theorem znF (k:Nat) (zbt:(Int×(Int×PPt))→Option Bool) (a0:(Bool×(Int×(Int×PPt)))):zN [⟨182,[.d (.pair (.int .u64) (.pair (.int .u64) (.pair (.int .u64) (.int .u64))))],[.bool],fun x=>zbt x,none⟩] tb k Tryz.f177 zh6 [.d (.pair .bool (.pair (.int .u64) (.pair (.int .u64) (.pair (.int .u64) (.int .u64)))))] [kI] a0=ze0 k zbt a0:=by kernel_rfl
def Xt (k:Nat) (a0:(Bool×(Int×(Int×PPt)))):Option Int:=ze0 k (Xu k) a0
theorem zjx (k:Nat):zv Tryz.prog 177 [.d (.pair .bool (.pair (.int .u64) (.pair (.int .u64) (.pair (.int .u64) (.int .u64)))))] [kI] (fun x=>Xt k x):=fun x y h=>zh zO mix (zo.cons (ze.of rfl (zjq k)) (zo.nil _)) Tryz.func177 (N:=k) (an:=zh6) (by kernel_rfl) x y ((znF k (Xu k) x).trans h)
def X1:Ann:=uLf
def ZP (k : Nat) (a0 : Int) : Option Bool :=
 some (!(decide (a0 = a0)))
theorem zfO (k:Nat) (a0:Int):zN [] tb k Tryz.f185 X1 [.d (.int .u64)] [.bool] a0=ZP k a0:=by kernel_rfl
theorem zdq (k:Nat):zv Tryz.prog 185 [.d (.int .u64)] [.bool] (fun x=>ZP k x):=fun x y h=>zh zO mix (zo.nil _) Tryz.func185 (N:=k) (an:=X1) (by kernel_rfl) x y ((zfO k x).trans h)
def YV:Ann:=uLf
def JM (k : Nat) (ZW : Int → Option Bool) (a0 : Int) (a1 : Int) : Option Int :=
 bnd (ZW a0) fun r0 =>
 bnd (ZW a1) fun r1 =>
 bif r0 then
 bif r1 then
 some 0
 else
 some (-1)
 else
 bif r1 then
 some 1
 else
 bif decide (a0 < a1) then
 some (-1)
 else
 bif decide (a0 > a1) then
 some 1
 else
 some 0
theorem zdV (k:Nat) (ZW:Int→Option Bool) (a0:Int) (a1:Int):zN [⟨185,[.d (.int .u64)],[.bool],fun x=>ZW x,none⟩] tb k Tryz.f183 YV [.d (.int .u64),.d (.int .u64)] [kI] (a0,a1)=JM k ZW a0 a1:=by kernel_rfl
def Zi (k:Nat) (a0:Int) (a1:Int):Option Int:=JM k (ZP k) a0 a1
theorem zb5 (k:Nat):zv Tryz.prog 183 [.d (.int .u64),.d (.int .u64)] [kI] (fun x=>Zi k (x.1) (x.2)):=fun x y h=>zh zO mix (zo.cons (ze.of rfl (zdq k)) (zo.nil _)) Tryz.func183 (N:=k) (an:=YV) (by kernel_rfl) x y ((zdV k (ZP k) (x.1) (x.2)).trans h)
def zhR:Ann:=uNn uLf (uNn (uNn uLf (uNn (.node none (some [(2,.box [.d (.pair (.int .u64) (.pair (.int .u64) (.pair (.int .u64) (.int .u64))))]),(3,.box [.d (.pair (.int .u64) (.pair (.int .u64) (.pair (.int .u64) (.int .u64))))]),(5,.d kI)]) uLf uLf) uLf)) uLf)
def zeE (k : Nat) (zd : Int → Int → Option Int) (a0 : (Int × (Int × PPt))) (a1 : (Int × (Int × PPt))) : Option Int :=
 zw (α := ((Int × (Int × PPt)) × ((Int × (Int × PPt)) × Int))) (fun (x1, x2, x3) next0 =>
 bif decide (x3 ≥ 0) then
 bif decide (x3 = 0) then
 bif decide (x3 = 0) then
 bif !(decide (x1.1 = x2.1)) then
 bif decide (x3 = 0) then
 bif decide (x3 = 0) then
 bnd (zd x1.1 x2.1) fun r4 =>
 some r4
 else
 bif decide (x3 = 1) then
 bnd (zd x1.1 x2.2.1) fun r5 =>
 some r5
 else
 bif decide (x3 = 2) then
 bnd (zd x1.1 x2.2.2.1) fun r6 =>
 some r6
 else
 bif decide (x3 = 3) then
 bnd (zd x1.1 x2.2.2.2) fun r7 =>
 some r7
 else
 none
 else
 bif decide (x3 = 1) then
 bif decide (x3 = 0) then
 bnd (zd x1.2.1 x2.1) fun r8 =>
 some r8
 else
 bif decide (x3 = 1) then
 bnd (zd x1.2.1 x2.2.1) fun r9 =>
 some r9
 else
 bif decide (x3 = 2) then
 bnd (zd x1.2.1 x2.2.2.1) fun r10 =>
 some r10
 else
 bif decide (x3 = 3) then
 bnd (zd x1.2.1 x2.2.2.2) fun r11 =>
 some r11
 else
 none
 else
 bif decide (x3 = 2) then
 bif decide (x3 = 0) then
 bnd (zd x1.2.2.1 x2.1) fun r12 =>
 some r12
 else
 bif decide (x3 = 1) then
 bnd (zd x1.2.2.1 x2.2.1) fun r13 =>
 some r13
 else
 bif decide (x3 = 2) then
 bnd (zd x1.2.2.1 x2.2.2.1) fun r14 =>
 some r14
 else
 bif decide (x3 = 3) then
 bnd (zd x1.2.2.1 x2.2.2.2) fun r15 =>
 some r15
 else
 none
 else
 bif decide (x3 = 3) then
 bif decide (x3 = 0) then
 bnd (zd x1.2.2.2 x2.1) fun r16 =>
 some r16
 else
 bif decide (x3 = 1) then
 bnd (zd x1.2.2.2 x2.2.1) fun r17 =>
 some r17
 else
 bif decide (x3 = 2) then
 bnd (zd x1.2.2.2 x2.2.2.1) fun r18 =>
 some r18
 else
 bif decide (x3 = 3) then
 bnd (zd x1.2.2.2 x2.2.2.2) fun r19 =>
 some r19
 else
 none
 else
 none
 else
 next0 ((x1.1, x1.2.1, x1.2.2.1, x1.2.2.2), (x2.1, x2.2.1, x2.2.2.1, x2.2.2.2), w64 (x3 - 1))
 else
 bif decide (x3 = 1) then
 bif !(decide (x1.1 = x2.2.1)) then
 bif decide (x3 = 0) then
 bif decide (x3 = 0) then
 bnd (zd x1.1 x2.1) fun r20 =>
 some r20
 else
 bif decide (x3 = 1) then
 bnd (zd x1.1 x2.2.1) fun r21 =>
 some r21
 else
 bif decide (x3 = 2) then
 bnd (zd x1.1 x2.2.2.1) fun r22 =>
 some r22
 else
 bif decide (x3 = 3) then
 bnd (zd x1.1 x2.2.2.2) fun r23 =>
 some r23
 else
 none
 else
 bif decide (x3 = 1) then
 bif decide (x3 = 0) then
 bnd (zd x1.2.1 x2.1) fun r24 =>
 some r24
 else
 bif decide (x3 = 1) then
 bnd (zd x1.2.1 x2.2.1) fun r25 =>
 some r25
 else
 bif decide (x3 = 2) then
 bnd (zd x1.2.1 x2.2.2.1) fun r26 =>
 some r26
 else
 bif decide (x3 = 3) then
 bnd (zd x1.2.1 x2.2.2.2) fun r27 =>
 some r27
 else
 none
 else
 bif decide (x3 = 2) then
 bif decide (x3 = 0) then
 bnd (zd x1.2.2.1 x2.1) fun r28 =>
 some r28
 else
 bif decide (x3 = 1) then
 bnd (zd x1.2.2.1 x2.2.1) fun r29 =>
 some r29
 else
 bif decide (x3 = 2) then
 bnd (zd x1.2.2.1 x2.2.2.1) fun r30 =>
 some r30
 else
 bif decide (x3 = 3) then
 bnd (zd x1.2.2.1 x2.2.2.2) fun r31 =>
 some r31
 else
 none
 else
 bif decide (x3 = 3) then
 bif decide (x3 = 0) then
 bnd (zd x1.2.2.2 x2.1) fun r32 =>
 some r32
 else
 bif decide (x3 = 1) then
 bnd (zd x1.2.2.2 x2.2.1) fun r33 =>
 some r33
 else
 bif decide (x3 = 2) then
 bnd (zd x1.2.2.2 x2.2.2.1) fun r34 =>
 some r34
 else
 bif decide (x3 = 3) then
 bnd (zd x1.2.2.2 x2.2.2.2) fun r35 =>
 some r35
 else
 none
 else
 none
 else
 next0 ((x1.1, x1.2.1, x1.2.2.1, x1.2.2.2), (x2.1, x2.2.1, x2.2.2.1, x2.2.2.2), w64 (x3 - 1))
 else
 bif decide (x3 = 2) then
 bif !(decide (x1.1 = x2.2.2.1)) then
 bif decide (x3 = 0) then
 bif decide (x3 = 0) then
 bnd (zd x1.1 x2.1) fun r36 =>
 some r36
 else
 bif decide (x3 = 1) then
 bnd (zd x1.1 x2.2.1) fun r37 =>
 some r37
 else
 bif decide (x3 = 2) then
 bnd (zd x1.1 x2.2.2.1) fun r38 =>
 some r38
 else
 bif decide (x3 = 3) then
 bnd (zd x1.1 x2.2.2.2) fun r39 =>
 some r39
 else
 none
 else
 bif decide (x3 = 1) then
 bif decide (x3 = 0) then
 bnd (zd x1.2.1 x2.1) fun r40 =>
 some r40
 else
 bif decide (x3 = 1) then
 bnd (zd x1.2.1 x2.2.1) fun r41 =>
 some r41
 else
 bif decide (x3 = 2) then
 bnd (zd x1.2.1 x2.2.2.1) fun r42 =>
 some r42
 else
 bif decide (x3 = 3) then
 bnd (zd x1.2.1 x2.2.2.2) fun r43 =>
 some r43
 else
 none
 else
 bif decide (x3 = 2) then
 bif decide (x3 = 0) then
 bnd (zd x1.2.2.1 x2.1) fun r44 =>
 some r44
 else
 bif decide (x3 = 1) then
 bnd (zd x1.2.2.1 x2.2.1) fun r45 =>
 some r45
 else
 bif decide (x3 = 2) then
 bnd (zd x1.2.2.1 x2.2.2.1) fun r46 =>
 some r46
 else
 bif decide (x3 = 3) then
 bnd (zd x1.2.2.1 x2.2.2.2) fun r47 =>
 some r47
 else
 none
 else
 bif decide (x3 = 3) then
 bif decide (x3 = 0) then
 bnd (zd x1.2.2.2 x2.1) fun r48 =>
 some r48
 else
 bif decide (x3 = 1) then
 bnd (zd x1.2.2.2 x2.2.1) fun r49 =>
 some r49
 else
 bif decide (x3 = 2) then
 bnd (zd x1.2.2.2 x2.2.2.1) fun r50 =>
 some r50
 else
 bif decide (x3 = 3) then
 bnd (zd x1.2.2.2 x2.2.2.2) fun r51 =>
 some r51
 else
 none
 else
 none
 else
 next0 ((x1.1, x1.2.1, x1.2.2.1, x1.2.2.2), (x2.1, x2.2.1, x2.2.2.1, x2.2.2.2), w64 (x3 - 1))
 else
 bif decide (x3 = 3) then
 bif !(decide (x1.1 = x2.2.2.2)) then
 bif decide (x3 = 0) then
 bif decide (x3 = 0) then
 bnd (zd x1.1 x2.1) fun r52 =>
 some r52
 else
 bif decide (x3 = 1) then
 bnd (zd x1.1 x2.2.1) fun r53 =>
 some r53
 else
 bif decide (x3 = 2) then
 bnd (zd x1.1 x2.2.2.1) fun r54 =>
 some r54
 else
 bif decide (x3 = 3) then
 bnd (zd x1.1 x2.2.2.2) fun r55 =>
 some r55
 else
 none
 else
 bif decide (x3 = 1) then
 bif decide (x3 = 0) then
 bnd (zd x1.2.1 x2.1) fun r56 =>
 some r56
 else
 bif decide (x3 = 1) then
 bnd (zd x1.2.1 x2.2.1) fun r57 =>
 some r57
 else
 bif decide (x3 = 2) then
 bnd (zd x1.2.1 x2.2.2.1) fun r58 =>
 some r58
 else
 bif decide (x3 = 3) then
 bnd (zd x1.2.1 x2.2.2.2) fun r59 =>
 some r59
 else
 none
 else
 bif decide (x3 = 2) then
 bif decide (x3 = 0) then
 bnd (zd x1.2.2.1 x2.1) fun r60 =>
 some r60
 else
 bif decide (x3 = 1) then
 bnd (zd x1.2.2.1 x2.2.1) fun r61 =>
 some r61
 else
 bif decide (x3 = 2) then
 bnd (zd x1.2.2.1 x2.2.2.1) fun r62 =>
 some r62
 else
 bif decide (x3 = 3) then
 bnd (zd x1.2.2.1 x2.2.2.2) fun r63 =>
 some r63
 else
 none
 else
 bif decide (x3 = 3) then
 bif decide (x3 = 0) then
 bnd (zd x1.2.2.2 x2.1) fun r64 =>
 some r64
 else
 bif decide (x3 = 1) then
 bnd (zd x1.2.2.2 x2.2.1) fun r65 =>
 some r65
 else
 bif decide (x3 = 2) then
 bnd (zd x1.2.2.2 x2.2.2.1) fun r66 =>
 some r66
 else
 bif decide (x3 = 3) then
 bnd (zd x1.2.2.2 x2.2.2.2) fun r67 =>
 some r67
 else
 none
 else
 none
 else
 next0 ((x1.1, x1.2.1, x1.2.2.1, x1.2.2.2), (x2.1, x2.2.1, x2.2.2.1, x2.2.2.2), w64 (x3 - 1))
 else
 none
 else
 bif decide (x3 = 1) then
 bif decide (x3 = 0) then
 bif !(decide (x1.2.1 = x2.1)) then
 bif decide (x3 = 0) then
 bif decide (x3 = 0) then
 bnd (zd x1.1 x2.1) fun r68 =>
 some r68
 else
 bif decide (x3 = 1) then
 bnd (zd x1.1 x2.2.1) fun r69 =>
 some r69
 else
 bif decide (x3 = 2) then
 bnd (zd x1.1 x2.2.2.1) fun r70 =>
 some r70
 else
 bif decide (x3 = 3) then
 bnd (zd x1.1 x2.2.2.2) fun r71 =>
 some r71
 else
 none
 else
 bif decide (x3 = 1) then
 bif decide (x3 = 0) then
 bnd (zd x1.2.1 x2.1) fun r72 =>
 some r72
 else
 bif decide (x3 = 1) then
 bnd (zd x1.2.1 x2.2.1) fun r73 =>
 some r73
 else
 bif decide (x3 = 2) then
 bnd (zd x1.2.1 x2.2.2.1) fun r74 =>
 some r74
 else
 bif decide (x3 = 3) then
 bnd (zd x1.2.1 x2.2.2.2) fun r75 =>
 some r75
 else
 none
 else
 bif decide (x3 = 2) then
 bif decide (x3 = 0) then
 bnd (zd x1.2.2.1 x2.1) fun r76 =>
 some r76
 else
 bif decide (x3 = 1) then
 bnd (zd x1.2.2.1 x2.2.1) fun r77 =>
 some r77
 else
 bif decide (x3 = 2) then
 bnd (zd x1.2.2.1 x2.2.2.1) fun r78 =>
 some r78
 else
 bif decide (x3 = 3) then
 bnd (zd x1.2.2.1 x2.2.2.2) fun r79 =>
 some r79
 else
 none
 else
 bif decide (x3 = 3) then
 bif decide (x3 = 0) then
 bnd (zd x1.2.2.2 x2.1) fun r80 =>
 some r80
 else
 bif decide (x3 = 1) then
 bnd (zd x1.2.2.2 x2.2.1) fun r81 =>
 some r81
 else
 bif decide (x3 = 2) then
 bnd (zd x1.2.2.2 x2.2.2.1) fun r82 =>
 some r82
 else
 bif decide (x3 = 3) then
 bnd (zd x1.2.2.2 x2.2.2.2) fun r83 =>
 some r83
 else
 none
 else
 none
 else
 next0 ((x1.1, x1.2.1, x1.2.2.1, x1.2.2.2), (x2.1, x2.2.1, x2.2.2.1, x2.2.2.2), w64 (x3 - 1))
 else
 bif decide (x3 = 1) then
 bif !(decide (x1.2.1 = x2.2.1)) then
 bif decide (x3 = 0) then
 bif decide (x3 = 0) then
 bnd (zd x1.1 x2.1) fun r84 =>
 some r84
 else
 bif decide (x3 = 1) then
 bnd (zd x1.1 x2.2.1) fun r85 =>
 some r85
 else
 bif decide (x3 = 2) then
 bnd (zd x1.1 x2.2.2.1) fun r86 =>
 some r86
 else
 bif decide (x3 = 3) then
 bnd (zd x1.1 x2.2.2.2) fun r87 =>
 some r87
 else
 none
 else
 bif decide (x3 = 1) then
 bif decide (x3 = 0) then
 bnd (zd x1.2.1 x2.1) fun r88 =>
 some r88
 else
 bif decide (x3 = 1) then
 bnd (zd x1.2.1 x2.2.1) fun r89 =>
 some r89
 else
 bif decide (x3 = 2) then
 bnd (zd x1.2.1 x2.2.2.1) fun r90 =>
 some r90
 else
 bif decide (x3 = 3) then
 bnd (zd x1.2.1 x2.2.2.2) fun r91 =>
 some r91
 else
 none
 else
 bif decide (x3 = 2) then
 bif decide (x3 = 0) then
 bnd (zd x1.2.2.1 x2.1) fun r92 =>
 some r92
 else
 bif decide (x3 = 1) then
 bnd (zd x1.2.2.1 x2.2.1) fun r93 =>
 some r93
 else
 bif decide (x3 = 2) then
 bnd (zd x1.2.2.1 x2.2.2.1) fun r94 =>
 some r94
 else
 bif decide (x3 = 3) then
 bnd (zd x1.2.2.1 x2.2.2.2) fun r95 =>
 some r95
 else
 none
 else
 bif decide (x3 = 3) then
 bif decide (x3 = 0) then
 bnd (zd x1.2.2.2 x2.1) fun r96 =>
 some r96
 else
 bif decide (x3 = 1) then
 bnd (zd x1.2.2.2 x2.2.1) fun r97 =>
 some r97
 else
 bif decide (x3 = 2) then
 bnd (zd x1.2.2.2 x2.2.2.1) fun r98 =>
 some r98
 else
 bif decide (x3 = 3) then
 bnd (zd x1.2.2.2 x2.2.2.2) fun r99 =>
 some r99
 else
 none
 else
 none
 else
 next0 ((x1.1, x1.2.1, x1.2.2.1, x1.2.2.2), (x2.1, x2.2.1, x2.2.2.1, x2.2.2.2), w64 (x3 - 1))
 else
 bif decide (x3 = 2) then
 bif !(decide (x1.2.1 = x2.2.2.1)) then
 bif decide (x3 = 0) then
 bif decide (x3 = 0) then
 bnd (zd x1.1 x2.1) fun r100 =>
 some r100
 else
 bif decide (x3 = 1) then
 bnd (zd x1.1 x2.2.1) fun r101 =>
 some r101
 else
 bif decide (x3 = 2) then
 bnd (zd x1.1 x2.2.2.1) fun r102 =>
 some r102
 else
 bif decide (x3 = 3) then
 bnd (zd x1.1 x2.2.2.2) fun r103 =>
 some r103
 else
 none
 else
 bif decide (x3 = 1) then
 bif decide (x3 = 0) then
 bnd (zd x1.2.1 x2.1) fun r104 =>
 some r104
 else
 bif decide (x3 = 1) then
 bnd (zd x1.2.1 x2.2.1) fun r105 =>
 some r105
 else
 bif decide (x3 = 2) then
 bnd (zd x1.2.1 x2.2.2.1) fun r106 =>
 some r106
 else
 bif decide (x3 = 3) then
 bnd (zd x1.2.1 x2.2.2.2) fun r107 =>
 some r107
 else
 none
 else
 bif decide (x3 = 2) then
 bif decide (x3 = 0) then
 bnd (zd x1.2.2.1 x2.1) fun r108 =>
 some r108
 else
 bif decide (x3 = 1) then
 bnd (zd x1.2.2.1 x2.2.1) fun r109 =>
 some r109
 else
 bif decide (x3 = 2) then
 bnd (zd x1.2.2.1 x2.2.2.1) fun r110 =>
 some r110
 else
 bif decide (x3 = 3) then
 bnd (zd x1.2.2.1 x2.2.2.2) fun r111 =>
 some r111
 else
 none
 else
 bif decide (x3 = 3) then
 bif decide (x3 = 0) then
 bnd (zd x1.2.2.2 x2.1) fun r112 =>
 some r112
 else
 bif decide (x3 = 1) then
 bnd (zd x1.2.2.2 x2.2.1) fun r113 =>
 some r113
 else
 bif decide (x3 = 2) then
 bnd (zd x1.2.2.2 x2.2.2.1) fun r114 =>
 some r114
 else
 bif decide (x3 = 3) then
 bnd (zd x1.2.2.2 x2.2.2.2) fun r115 =>
 some r115
 else
 none
 else
 none
 else
 next0 ((x1.1, x1.2.1, x1.2.2.1, x1.2.2.2), (x2.1, x2.2.1, x2.2.2.1, x2.2.2.2), w64 (x3 - 1))
 else
 bif decide (x3 = 3) then
 bif !(decide (x1.2.1 = x2.2.2.2)) then
 bif decide (x3 = 0) then
 bif decide (x3 = 0) then
 bnd (zd x1.1 x2.1) fun r116 =>
 some r116
 else
 bif decide (x3 = 1) then
 bnd (zd x1.1 x2.2.1) fun r117 =>
 some r117
 else
 bif decide (x3 = 2) then
 bnd (zd x1.1 x2.2.2.1) fun r118 =>
 some r118
 else
 bif decide (x3 = 3) then
 bnd (zd x1.1 x2.2.2.2) fun r119 =>
 some r119
 else
 none
 else
 bif decide (x3 = 1) then
 bif decide (x3 = 0) then
 bnd (zd x1.2.1 x2.1) fun r120 =>
 some r120
 else
 bif decide (x3 = 1) then
 bnd (zd x1.2.1 x2.2.1) fun r121 =>
 some r121
 else
 bif decide (x3 = 2) then
 bnd (zd x1.2.1 x2.2.2.1) fun r122 =>
 some r122
 else
 bif decide (x3 = 3) then
 bnd (zd x1.2.1 x2.2.2.2) fun r123 =>
 some r123
 else
 none
 else
 bif decide (x3 = 2) then
 bif decide (x3 = 0) then
 bnd (zd x1.2.2.1 x2.1) fun r124 =>
 some r124
 else
 bif decide (x3 = 1) then
 bnd (zd x1.2.2.1 x2.2.1) fun r125 =>
 some r125
 else
 bif decide (x3 = 2) then
 bnd (zd x1.2.2.1 x2.2.2.1) fun r126 =>
 some r126
 else
 bif decide (x3 = 3) then
 bnd (zd x1.2.2.1 x2.2.2.2) fun r127 =>
 some r127
 else
 none
 else
 bif decide (x3 = 3) then
 bif decide (x3 = 0) then
 bnd (zd x1.2.2.2 x2.1) fun r128 =>
 some r128
 else
 bif decide (x3 = 1) then
 bnd (zd x1.2.2.2 x2.2.1) fun r129 =>
 some r129
 else
 bif decide (x3 = 2) then
 bnd (zd x1.2.2.2 x2.2.2.1) fun r130 =>
 some r130
 else
 bif decide (x3 = 3) then
 bnd (zd x1.2.2.2 x2.2.2.2) fun r131 =>
 some r131
 else
 none
 else
 none
 else
 next0 ((x1.1, x1.2.1, x1.2.2.1, x1.2.2.2), (x2.1, x2.2.1, x2.2.2.1, x2.2.2.2), w64 (x3 - 1))
 else
 none
 else
 bif decide (x3 = 2) then
 bif decide (x3 = 0) then
 bif !(decide (x1.2.2.1 = x2.1)) then
 bif decide (x3 = 0) then
 bif decide (x3 = 0) then
 bnd (zd x1.1 x2.1) fun r132 =>
 some r132
 else
 bif decide (x3 = 1) then
 bnd (zd x1.1 x2.2.1) fun r133 =>
 some r133
 else
 bif decide (x3 = 2) then
 bnd (zd x1.1 x2.2.2.1) fun r134 =>
 some r134
 else
 bif decide (x3 = 3) then
 bnd (zd x1.1 x2.2.2.2) fun r135 =>
 some r135
 else
 none
 else
 bif decide (x3 = 1) then
 bif decide (x3 = 0) then
 bnd (zd x1.2.1 x2.1) fun r136 =>
 some r136
 else
 bif decide (x3 = 1) then
 bnd (zd x1.2.1 x2.2.1) fun r137 =>
 some r137
 else
 bif decide (x3 = 2) then
 bnd (zd x1.2.1 x2.2.2.1) fun r138 =>
 some r138
 else
 bif decide (x3 = 3) then
 bnd (zd x1.2.1 x2.2.2.2) fun r139 =>
 some r139
 else
 none
 else
 bif decide (x3 = 2) then
 bif decide (x3 = 0) then
 bnd (zd x1.2.2.1 x2.1) fun r140 =>
 some r140
 else
 bif decide (x3 = 1) then
 bnd (zd x1.2.2.1 x2.2.1) fun r141 =>
 some r141
 else
 bif decide (x3 = 2) then
 bnd (zd x1.2.2.1 x2.2.2.1) fun r142 =>
 some r142
 else
 bif decide (x3 = 3) then
 bnd (zd x1.2.2.1 x2.2.2.2) fun r143 =>
 some r143
 else
 none
 else
 bif decide (x3 = 3) then
 bif decide (x3 = 0) then
 bnd (zd x1.2.2.2 x2.1) fun r144 =>
 some r144
 else
 bif decide (x3 = 1) then
 bnd (zd x1.2.2.2 x2.2.1) fun r145 =>
 some r145
 else
 bif decide (x3 = 2) then
 bnd (zd x1.2.2.2 x2.2.2.1) fun r146 =>
 some r146
 else
 bif decide (x3 = 3) then
 bnd (zd x1.2.2.2 x2.2.2.2) fun r147 =>
 some r147
 else
 none
 else
 none
 else
 next0 ((x1.1, x1.2.1, x1.2.2.1, x1.2.2.2), (x2.1, x2.2.1, x2.2.2.1, x2.2.2.2), w64 (x3 - 1))
 else
 bif decide (x3 = 1) then
 bif !(decide (x1.2.2.1 = x2.2.1)) then
 bif decide (x3 = 0) then
 bif decide (x3 = 0) then
 bnd (zd x1.1 x2.1) fun r148 =>
 some r148
 else
 bif decide (x3 = 1) then
 bnd (zd x1.1 x2.2.1) fun r149 =>
 some r149
 else
 bif decide (x3 = 2) then
 bnd (zd x1.1 x2.2.2.1) fun r150 =>
 some r150
 else
 bif decide (x3 = 3) then
 bnd (zd x1.1 x2.2.2.2) fun r151 =>
 some r151
 else
 none
 else
 bif decide (x3 = 1) then
 bif decide (x3 = 0) then
 bnd (zd x1.2.1 x2.1) fun r152 =>
 some r152
 else
 bif decide (x3 = 1) then
 bnd (zd x1.2.1 x2.2.1) fun r153 =>
 some r153
 else
 bif decide (x3 = 2) then
 bnd (zd x1.2.1 x2.2.2.1) fun r154 =>
 some r154
 else
 bif decide (x3 = 3) then
 bnd (zd x1.2.1 x2.2.2.2) fun r155 =>
 some r155
 else
 none
 else
 bif decide (x3 = 2) then
 bif decide (x3 = 0) then
 bnd (zd x1.2.2.1 x2.1) fun r156 =>
 some r156
 else
 bif decide (x3 = 1) then
 bnd (zd x1.2.2.1 x2.2.1) fun r157 =>
 some r157
 else
 bif decide (x3 = 2) then
 bnd (zd x1.2.2.1 x2.2.2.1) fun r158 =>
 some r158
 else
 bif decide (x3 = 3) then
 bnd (zd x1.2.2.1 x2.2.2.2) fun r159 =>
 some r159
 else
 none
 else
 bif decide (x3 = 3) then
 bif decide (x3 = 0) then
 bnd (zd x1.2.2.2 x2.1) fun r160 =>
 some r160
 else
 bif decide (x3 = 1) then
 bnd (zd x1.2.2.2 x2.2.1) fun r161 =>
 some r161
 else
 bif decide (x3 = 2) then
 bnd (zd x1.2.2.2 x2.2.2.1) fun r162 =>
 some r162
 else
 bif decide (x3 = 3) then
 bnd (zd x1.2.2.2 x2.2.2.2) fun r163 =>
 some r163
 else
 none
 else
 none
 else
 next0 ((x1.1, x1.2.1, x1.2.2.1, x1.2.2.2), (x2.1, x2.2.1, x2.2.2.1, x2.2.2.2), w64 (x3 - 1))
 else
 bif decide (x3 = 2) then
 bif !(decide (x1.2.2.1 = x2.2.2.1)) then
 bif decide (x3 = 0) then
 bif decide (x3 = 0) then
 bnd (zd x1.1 x2.1) fun r164 =>
 some r164
 else
 bif decide (x3 = 1) then
 bnd (zd x1.1 x2.2.1) fun r165 =>
 some r165
 else
 bif decide (x3 = 2) then
 bnd (zd x1.1 x2.2.2.1) fun r166 =>
 some r166
 else
 bif decide (x3 = 3) then
 bnd (zd x1.1 x2.2.2.2) fun r167 =>
 some r167
 else
 none
 else
 bif decide (x3 = 1) then
 bif decide (x3 = 0) then
 bnd (zd x1.2.1 x2.1) fun r168 =>
 some r168
 else
 bif decide (x3 = 1) then
 bnd (zd x1.2.1 x2.2.1) fun r169 =>
 some r169
 else
 bif decide (x3 = 2) then
 bnd (zd x1.2.1 x2.2.2.1) fun r170 =>
 some r170
 else
 bif decide (x3 = 3) then
 bnd (zd x1.2.1 x2.2.2.2) fun r171 =>
 some r171
 else
 none
 else
 bif decide (x3 = 2) then
 bif decide (x3 = 0) then
 bnd (zd x1.2.2.1 x2.1) fun r172 =>
 some r172
 else
 bif decide (x3 = 1) then
 bnd (zd x1.2.2.1 x2.2.1) fun r173 =>
 some r173
 else
 bif decide (x3 = 2) then
 bnd (zd x1.2.2.1 x2.2.2.1) fun r174 =>
 some r174
 else
 bif decide (x3 = 3) then
 bnd (zd x1.2.2.1 x2.2.2.2) fun r175 =>
 some r175
 else
 none
 else
 bif decide (x3 = 3) then
 bif decide (x3 = 0) then
 bnd (zd x1.2.2.2 x2.1) fun r176 =>
 some r176
 else
 bif decide (x3 = 1) then
 bnd (zd x1.2.2.2 x2.2.1) fun r177 =>
 some r177
 else
 bif decide (x3 = 2) then
 bnd (zd x1.2.2.2 x2.2.2.1) fun r178 =>
 some r178
 else
 bif decide (x3 = 3) then
 bnd (zd x1.2.2.2 x2.2.2.2) fun r179 =>
 some r179
 else
 none
 else
 none
 else
 next0 ((x1.1, x1.2.1, x1.2.2.1, x1.2.2.2), (x2.1, x2.2.1, x2.2.2.1, x2.2.2.2), w64 (x3 - 1))
 else
 bif decide (x3 = 3) then
 bif !(decide (x1.2.2.1 = x2.2.2.2)) then
 bif decide (x3 = 0) then
 bif decide (x3 = 0) then
 bnd (zd x1.1 x2.1) fun r180 =>
 some r180
 else
 bif decide (x3 = 1) then
 bnd (zd x1.1 x2.2.1) fun r181 =>
 some r181
 else
 bif decide (x3 = 2) then
 bnd (zd x1.1 x2.2.2.1) fun r182 =>
 some r182
 else
 bif decide (x3 = 3) then
 bnd (zd x1.1 x2.2.2.2) fun r183 =>
 some r183
 else
 none
 else
 bif decide (x3 = 1) then
 bif decide (x3 = 0) then
 bnd (zd x1.2.1 x2.1) fun r184 =>
 some r184
 else
 bif decide (x3 = 1) then
 bnd (zd x1.2.1 x2.2.1) fun r185 =>
 some r185
 else
 bif decide (x3 = 2) then
 bnd (zd x1.2.1 x2.2.2.1) fun r186 =>
 some r186
 else
 bif decide (x3 = 3) then
 bnd (zd x1.2.1 x2.2.2.2) fun r187 =>
 some r187
 else
 none
 else
 bif decide (x3 = 2) then
 bif decide (x3 = 0) then
 bnd (zd x1.2.2.1 x2.1) fun r188 =>
 some r188
 else
 bif decide (x3 = 1) then
 bnd (zd x1.2.2.1 x2.2.1) fun r189 =>
 some r189
 else
 bif decide (x3 = 2) then
 bnd (zd x1.2.2.1 x2.2.2.1) fun r190 =>
 some r190
 else
 bif decide (x3 = 3) then
 bnd (zd x1.2.2.1 x2.2.2.2) fun r191 =>
 some r191
 else
 none
 else
 bif decide (x3 = 3) then
 bif decide (x3 = 0) then
 bnd (zd x1.2.2.2 x2.1) fun r192 =>
 some r192
 else
 bif decide (x3 = 1) then
 bnd (zd x1.2.2.2 x2.2.1) fun r193 =>
 some r193
 else
 bif decide (x3 = 2) then
 bnd (zd x1.2.2.2 x2.2.2.1) fun r194 =>
 some r194
 else
 bif decide (x3 = 3) then
 bnd (zd x1.2.2.2 x2.2.2.2) fun r195 =>
 some r195
 else
 none
 else
 none
 else
 next0 ((x1.1, x1.2.1, x1.2.2.1, x1.2.2.2), (x2.1, x2.2.1, x2.2.2.1, x2.2.2.2), w64 (x3 - 1))
 else
 none
 else
 bif decide (x3 = 3) then
 bif decide (x3 = 0) then
 bif !(decide (x1.2.2.2 = x2.1)) then
 bif decide (x3 = 0) then
 bif decide (x3 = 0) then
 bnd (zd x1.1 x2.1) fun r196 =>
 some r196
 else
 bif decide (x3 = 1) then
 bnd (zd x1.1 x2.2.1) fun r197 =>
 some r197
 else
 bif decide (x3 = 2) then
 bnd (zd x1.1 x2.2.2.1) fun r198 =>
 some r198
 else
 bif decide (x3 = 3) then
 bnd (zd x1.1 x2.2.2.2) fun r199 =>
 some r199
 else
 none
 else
 bif decide (x3 = 1) then
 bif decide (x3 = 0) then
 bnd (zd x1.2.1 x2.1) fun r200 =>
 some r200
 else
 bif decide (x3 = 1) then
 bnd (zd x1.2.1 x2.2.1) fun r201 =>
 some r201
 else
 bif decide (x3 = 2) then
 bnd (zd x1.2.1 x2.2.2.1) fun r202 =>
 some r202
 else
 bif decide (x3 = 3) then
 bnd (zd x1.2.1 x2.2.2.2) fun r203 =>
 some r203
 else
 none
 else
 bif decide (x3 = 2) then
 bif decide (x3 = 0) then
 bnd (zd x1.2.2.1 x2.1) fun r204 =>
 some r204
 else
 bif decide (x3 = 1) then
 bnd (zd x1.2.2.1 x2.2.1) fun r205 =>
 some r205
 else
 bif decide (x3 = 2) then
 bnd (zd x1.2.2.1 x2.2.2.1) fun r206 =>
 some r206
 else
 bif decide (x3 = 3) then
 bnd (zd x1.2.2.1 x2.2.2.2) fun r207 =>
 some r207
 else
 none
 else
 bif decide (x3 = 3) then
 bif decide (x3 = 0) then
 bnd (zd x1.2.2.2 x2.1) fun r208 =>
 some r208
 else
 bif decide (x3 = 1) then
 bnd (zd x1.2.2.2 x2.2.1) fun r209 =>
 some r209
 else
 bif decide (x3 = 2) then
 bnd (zd x1.2.2.2 x2.2.2.1) fun r210 =>
 some r210
 else
 bif decide (x3 = 3) then
 bnd (zd x1.2.2.2 x2.2.2.2) fun r211 =>
 some r211
 else
 none
 else
 none
 else
 next0 ((x1.1, x1.2.1, x1.2.2.1, x1.2.2.2), (x2.1, x2.2.1, x2.2.2.1, x2.2.2.2), w64 (x3 - 1))
 else
 bif decide (x3 = 1) then
 bif !(decide (x1.2.2.2 = x2.2.1)) then
 bif decide (x3 = 0) then
 bif decide (x3 = 0) then
 bnd (zd x1.1 x2.1) fun r212 =>
 some r212
 else
 bif decide (x3 = 1) then
 bnd (zd x1.1 x2.2.1) fun r213 =>
 some r213
 else
 bif decide (x3 = 2) then
 bnd (zd x1.1 x2.2.2.1) fun r214 =>
 some r214
 else
 bif decide (x3 = 3) then
 bnd (zd x1.1 x2.2.2.2) fun r215 =>
 some r215
 else
 none
 else
 bif decide (x3 = 1) then
 bif decide (x3 = 0) then
 bnd (zd x1.2.1 x2.1) fun r216 =>
 some r216
 else
 bif decide (x3 = 1) then
 bnd (zd x1.2.1 x2.2.1) fun r217 =>
 some r217
 else
 bif decide (x3 = 2) then
 bnd (zd x1.2.1 x2.2.2.1) fun r218 =>
 some r218
 else
 bif decide (x3 = 3) then
 bnd (zd x1.2.1 x2.2.2.2) fun r219 =>
 some r219
 else
 none
 else
 bif decide (x3 = 2) then
 bif decide (x3 = 0) then
 bnd (zd x1.2.2.1 x2.1) fun r220 =>
 some r220
 else
 bif decide (x3 = 1) then
 bnd (zd x1.2.2.1 x2.2.1) fun r221 =>
 some r221
 else
 bif decide (x3 = 2) then
 bnd (zd x1.2.2.1 x2.2.2.1) fun r222 =>
 some r222
 else
 bif decide (x3 = 3) then
 bnd (zd x1.2.2.1 x2.2.2.2) fun r223 =>
 some r223
 else
 none
 else
 bif decide (x3 = 3) then
 bif decide (x3 = 0) then
 bnd (zd x1.2.2.2 x2.1) fun r224 =>
 some r224
 else
 bif decide (x3 = 1) then
 bnd (zd x1.2.2.2 x2.2.1) fun r225 =>
 some r225
 else
 bif decide (x3 = 2) then
 bnd (zd x1.2.2.2 x2.2.2.1) fun r226 =>
 some r226
 else
 bif decide (x3 = 3) then
 bnd (zd x1.2.2.2 x2.2.2.2) fun r227 =>
 some r227
 else
 none
 else
 none
 else
 next0 ((x1.1, x1.2.1, x1.2.2.1, x1.2.2.2), (x2.1, x2.2.1, x2.2.2.1, x2.2.2.2), w64 (x3 - 1))
 else
 bif decide (x3 = 2) then
 bif !(decide (x1.2.2.2 = x2.2.2.1)) then
 bif decide (x3 = 0) then
 bif decide (x3 = 0) then
 bnd (zd x1.1 x2.1) fun r228 =>
 some r228
 else
 bif decide (x3 = 1) then
 bnd (zd x1.1 x2.2.1) fun r229 =>
 some r229
 else
 bif decide (x3 = 2) then
 bnd (zd x1.1 x2.2.2.1) fun r230 =>
 some r230
 else
 bif decide (x3 = 3) then
 bnd (zd x1.1 x2.2.2.2) fun r231 =>
 some r231
 else
 none
 else
 bif decide (x3 = 1) then
 bif decide (x3 = 0) then
 bnd (zd x1.2.1 x2.1) fun r232 =>
 some r232
 else
 bif decide (x3 = 1) then
 bnd (zd x1.2.1 x2.2.1) fun r233 =>
 some r233
 else
 bif decide (x3 = 2) then
 bnd (zd x1.2.1 x2.2.2.1) fun r234 =>
 some r234
 else
 bif decide (x3 = 3) then
 bnd (zd x1.2.1 x2.2.2.2) fun r235 =>
 some r235
 else
 none
 else
 bif decide (x3 = 2) then
 bif decide (x3 = 0) then
 bnd (zd x1.2.2.1 x2.1) fun r236 =>
 some r236
 else
 bif decide (x3 = 1) then
 bnd (zd x1.2.2.1 x2.2.1) fun r237 =>
 some r237
 else
 bif decide (x3 = 2) then
 bnd (zd x1.2.2.1 x2.2.2.1) fun r238 =>
 some r238
 else
 bif decide (x3 = 3) then
 bnd (zd x1.2.2.1 x2.2.2.2) fun r239 =>
 some r239
 else
 none
 else
 bif decide (x3 = 3) then
 bif decide (x3 = 0) then
 bnd (zd x1.2.2.2 x2.1) fun r240 =>
 some r240
 else
 bif decide (x3 = 1) then
 bnd (zd x1.2.2.2 x2.2.1) fun r241 =>
 some r241
 else
 bif decide (x3 = 2) then
 bnd (zd x1.2.2.2 x2.2.2.1) fun r242 =>
 some r242
 else
 bif decide (x3 = 3) then
 bnd (zd x1.2.2.2 x2.2.2.2) fun r243 =>
 some r243
 else
 none
 else
 none
 else
 next0 ((x1.1, x1.2.1, x1.2.2.1, x1.2.2.2), (x2.1, x2.2.1, x2.2.2.1, x2.2.2.2), w64 (x3 - 1))
 else
 bif decide (x3 = 3) then
 bif !(decide (x1.2.2.2 = x2.2.2.2)) then
 bif decide (x3 = 0) then
 bif decide (x3 = 0) then
 bnd (zd x1.1 x2.1) fun r244 =>
 some r244
 else
 bif decide (x3 = 1) then
 bnd (zd x1.1 x2.2.1) fun r245 =>
 some r245
 else
 bif decide (x3 = 2) then
 bnd (zd x1.1 x2.2.2.1) fun r246 =>
 some r246
 else
 bif decide (x3 = 3) then
 bnd (zd x1.1 x2.2.2.2) fun r247 =>
 some r247
 else
 none
 else
 bif decide (x3 = 1) then
 bif decide (x3 = 0) then
 bnd (zd x1.2.1 x2.1) fun r248 =>
 some r248
 else
 bif decide (x3 = 1) then
 bnd (zd x1.2.1 x2.2.1) fun r249 =>
 some r249
 else
 bif decide (x3 = 2) then
 bnd (zd x1.2.1 x2.2.2.1) fun r250 =>
 some r250
 else
 bif decide (x3 = 3) then
 bnd (zd x1.2.1 x2.2.2.2) fun r251 =>
 some r251
 else
 none
 else
 bif decide (x3 = 2) then
 bif decide (x3 = 0) then
 bnd (zd x1.2.2.1 x2.1) fun r252 =>
 some r252
 else
 bif decide (x3 = 1) then
 bnd (zd x1.2.2.1 x2.2.1) fun r253 =>
 some r253
 else
 bif decide (x3 = 2) then
 bnd (zd x1.2.2.1 x2.2.2.1) fun r254 =>
 some r254
 else
 bif decide (x3 = 3) then
 bnd (zd x1.2.2.1 x2.2.2.2) fun r255 =>
 some r255
 else
 none
 else
 bif decide (x3 = 3) then
 bif decide (x3 = 0) then
 bnd (zd x1.2.2.2 x2.1) fun r256 =>
 some r256
 else
 bif decide (x3 = 1) then
 bnd (zd x1.2.2.2 x2.2.1) fun r257 =>
 some r257
 else
 bif decide (x3 = 2) then
 bnd (zd x1.2.2.2 x2.2.2.1) fun r258 =>
 some r258
 else
 bif decide (x3 = 3) then
 bnd (zd x1.2.2.2 x2.2.2.2) fun r259 =>
 some r259
 else
 none
 else
 none
 else
 next0 ((x1.1, x1.2.1, x1.2.2.1, x1.2.2.2), (x2.1, x2.2.1, x2.2.2.1, x2.2.2.2), w64 (x3 - 1))
 else
 none
 else
 none
 else
 some 0) k ((a0.1, a0.2.1, a0.2.2.1, a0.2.2.2), (a1.1, a1.2.1, a1.2.2.1, a1.2.2.2), 3)
theorem zn0 (k:Nat) (zd:Int→Int→Option Int) (a0:(Int×(Int×PPt))) (a1:(Int×(Int×PPt))):zN [⟨183,[.d (.int .u64),.d (.int .u64)],[kI],fun x=>zd (x.1) (x.2),none⟩] tb k Tryz.f178 zhR [.d (.pair (.int .u64) (.pair (.int .u64) (.pair (.int .u64) (.int .u64)))),.d (.pair (.int .u64) (.pair (.int .u64) (.pair (.int .u64) (.int .u64))))] [kI] (a0,a1)=zeE k zd a0 a1:=by kernel_rfl
def Xx (k:Nat) (a0:(Int×(Int×PPt))) (a1:(Int×(Int×PPt))):Option Int:=zeE k (Zi k) a0 a1
theorem zjF (k:Nat):zv Tryz.prog 178 [.d (.pair (.int .u64) (.pair (.int .u64) (.pair (.int .u64) (.int .u64)))),.d (.pair (.int .u64) (.pair (.int .u64) (.pair (.int .u64) (.int .u64))))] [kI] (fun x=>Xx k (x.1) (x.2)):=fun x y h=>zh zO mix (zo.cons (ze.of rfl (zb5 k)) (zo.nil _)) Tryz.func178 (N:=k) (an:=zhR) (by kernel_rfl) x y ((zn0 k (Zi k) (x.1) (x.2)).trans h)
end
end Go.Proofs.YtpkkcjmblocjdaaGreat.AM
