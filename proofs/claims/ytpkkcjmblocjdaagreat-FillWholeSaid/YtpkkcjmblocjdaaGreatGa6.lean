/- The functions, by their texts: written by a program. -/
import Derived.Test.YtpkkcjmblocjdaaGreatGa5
import Derived.Test.YtpkkcjmblocjdaaGreatCln
set_option linter.unusedVariables false
set_option linter.unusedSimpArgs false
set_option linter.unusedSectionVars false
set_option maxRecDepth 100000
namespace Go.Proofs.YtpkkcjmblocjdaaGreat.AM
open Go.RowKit Go.Proofs
noncomputable section
def YV:Ann:=uLf
def jd (k : Nat) (a0 : (Int × PPt)) (a1 : (Int × PPt)) : Option Bool :=
 bif !(decide (a0.1 = a1.1)) then
 some (decide (a0.1 < a1.1))
 else
 bif !(decide (a0.2.1 = a1.2.1)) then
 some (decide (a0.2.1 < a1.2.1))
 else
 some (decide (a0.2.2 < a1.2.2))
theorem zdk (k:Nat) (a0:(Int×PPt)) (a1:(Int×PPt)):zP [] tb k Tryz.f62 YV [.d (.pair kI kPP),.d (.pair kI kPP)] [.bool] (a0,a1)=jd k a0 a1:=by kernel_rfl
theorem zbI (k:Nat):zx Tryz.prog 62 [.d (.pair kI kPP),.d (.pair kI kPP)] [.bool] (fun x=>jd k (x.1) (x.2)):=fun x y h=>zk zR mix (zp.nil _) Tryz.func62 (N:=k) (an:=YV) (by kernel_rfl) x y ((zdk k (x.1) (x.2)).trans h)
def Y4:Ann:=uLf
def qN (k : Nat) (a0 : (Int × PPt)) : Option LPt :=
 some [(a0.1, a0.2.1), (a0.2.1, a0.2.2), (a0.2.2, a0.1)]
theorem zev (k:Nat) (a0:(Int×PPt)):zP [] tb k Tryz.f63 Y4 [.d (.pair kI kPP)] [.sl kPP] a0=qN k a0:=by kernel_rfl
theorem K5 (k:Nat):zx Tryz.prog 63 [.d (.pair kI kPP)] [.sl kPP] (fun x=>qN k x):=fun x y h=>zk zR mix (zp.nil _) Tryz.func63 (N:=k) (an:=Y4) (by kernel_rfl) x y ((zev k x).trans h)
def zah:Ann:=uNn uLf (uNn (uNn uLf (uNn (.node none (some [(0,.d (.sl (.pair kI kPP))),(1,.d kI),(2,.d kI),(7,.d kI)]) (uNn uLf (uNn (uNn (uNn uLf (uNn uLf (uNn (.node none (some [(0,.d (.sl (.pair kI kPP))),(1,.d kI),(2,.d kI),(7,.d kI),(8,.d kLP),(9,.d kI)]) (uNn uLf (uNn (uNn (uNn (.node (some [(0,.d (.sl (.pair kI kPP))),(1,.d kI),(2,.d kI),(7,.d kI),(8,.d kLP),(9,.d kI),(40,.d .bool)]) none uLf uLf) uLf) uLf) uLf)) uLf) uLf))) uLf) uLf)) uLf) uLf)) uLf)
def Kz (k : Nat) (qI : (Int × PPt) → Option LPt) (a0 : LTr) (a1 : Int) (a2 : Int) : Option Int :=
 zA (α := (LTr × (Int × PPt))) (fun (x1, x2, x3, x4) next0 =>
 bif decide (x4 < (x1.length : Int)) then
 gd (inb x4 x1.length) <|
 bnd (qI ((rdD (0, 0, 0) x1 x4).1, (rdD (0, 0, 0) x1 x4).2.1, (rdD (0, 0, 0) x1 x4).2.2)) fun r5 =>
 zA (α := (LTr × (Int × (Int × (Int × (LPt × Int)))))) (fun (x7, x8, x9, x10, x11, x12) next6 =>
 bif decide (x12 < 3) then
 zz (α := (LTr × (Int × (Int × (Int × (LPt × (Int × Bool))))))) (fun (y13, y14, y15, y16, y17, y18, y19) =>
 bif y19 then
 some y16
 else
 next6 (y13, y14, y15, y16, y17, w64 (y18 + 1))) fun j20 =>
 gd (inb x12 x11.length) <|
 bif decide ((rdD (0, 0) x11 x12).1 = x8) then
 gd (inb x12 x11.length) <|
 j20 (x7, x8, x9, x10, x11, x12, decide ((rdD (0, 0) x11 x12).2 = x9))
 else
 j20 (x7, x8, x9, x10, x11, x12, false)
 else
 next0 (x7, x8, x9, w64 (x10 + 1))) k (x1, x2, x3, x4, r5, 0)
 else
 some (-1)) k (a0, a1, a2, 0)
theorem zeT (k:Nat) (qI:(Int×PPt)→Option LPt) (a0:LTr) (a1:Int) (a2:Int):zP [⟨63,[.d (.pair kI kPP)],[.sl kPP],fun x=>qI x,none⟩] tb k Tryz.f29 zah [.d (.sl (.pair kI kPP)),.d kI,.d kI] [kI] (a0,a1,a2)=Kz k qI a0 a1 a2:=by kernel_rfl
def qd (k:Nat) (a0:LTr) (a1:Int) (a2:Int):Option Int:=Kz k (qN k) a0 a1 a2
theorem Yo (k:Nat):zx Tryz.prog 29 [.d (.sl (.pair kI kPP)),.d kI,.d kI] [kI] (fun x=>qd k (x.1) (x.2.1) (x.2.2)):=fun x y h=>zk zR mix (zp.cons (ze.of rfl (K5 k)) (zp.nil _)) Tryz.func29 (N:=k) (an:=zah) (by kernel_rfl) x y ((zeT k (qN k) (x.1) (x.2.1) (x.2.2)).trans h)
def zav:Ann:=uNn uLf (uNn (uNn uLf (uNn (.node none (some [(0,.d kLP),(1,.d kI),(2,.d kI),(7,.d kI)]) (uNn uLf (uNn (uNn (uNn (.node (some [(0,.d kLP),(1,.d kI),(2,.d kI),(7,.d kI),(47,.d .bool)]) none uLf uLf) uLf) uLf) uLf)) uLf) uLf)) uLf)
def qP (k : Nat) (a0 : LPt) (a1 : Int) (a2 : Int) : Option Bool :=
 zA (α := (LPt × (Int × PPt))) (fun (x1, x2, x3, x4) next0 =>
 bif decide (x4 < (x1.length : Int)) then
 zz (α := (LPt × (Int × (Int × (Int × Bool))))) (fun (y5, y6, y7, y8, y9) =>
 bif y9 then
 some true
 else
 next0 (y5, y6, y7, w64 (y8 + 1))) fun j10 =>
 gd (inb x4 x1.length) <|
 bif decide ((rdD (0, 0) x1 x4).1 = x2) then
 gd (inb x4 x1.length) <|
 bif decide ((rdD (0, 0) x1 x4).2 = x3) then
 j10 (x1, x2, x3, x4, true)
 else
 gd (inb x4 x1.length) <|
 bif decide ((rdD (0, 0) x1 x4).1 = x3) then
 gd (inb x4 x1.length) <|
 j10 (x1, x2, x3, x4, decide ((rdD (0, 0) x1 x4).2 = x2))
 else
 j10 (x1, x2, x3, x4, false)
 else
 gd (inb x4 x1.length) <|
 bif decide ((rdD (0, 0) x1 x4).1 = x3) then
 gd (inb x4 x1.length) <|
 j10 (x1, x2, x3, x4, decide ((rdD (0, 0) x1 x4).2 = x2))
 else
 j10 (x1, x2, x3, x4, false)
 else
 some false) k (a0, a1, a2, 0)
theorem zgb (k:Nat) (a0:LPt) (a1:Int) (a2:Int):zP [] tb k Tryz.f28 zav [.d kLP,.d kI,.d kI] [.bool] (a0,a1,a2)=qP k a0 a1 a2:=by kernel_rfl
theorem YQ (k:Nat):zx Tryz.prog 28 [.d kLP,.d kI,.d kI] [.bool] (fun x=>qP k (x.1) (x.2.1) (x.2.2)):=fun x y h=>zk zR mix (zp.nil _) Tryz.func28 (N:=k) (an:=zav) (by kernel_rfl) x y ((zgb k (x.1) (x.2.1) (x.2.2)).trans h)
def Y2:Ann:=uNn uLf (uNn (uNn uLf (uNn (.node none (some [(1,.box [.d (.pair kLP (.pair (.sl (.pair kI kPP)) kLP))]),(3,.d kI)]) (uNn uLf (uNn (uNn (uNn uLf (uNn (uNn (.node (some [(1,.box [.d (.pair kLP (.pair (.sl (.pair kI kPP)) kLP))]),(3,.d kI),(4,.box [.d (.pair kI kPP)]),(66,.d .bool)]) none uLf uLf) uLf) (uNn uLf (uNn uLf (uNn (.node none (some [(1,.box [.d (.pair kLP (.pair (.sl (.pair kI kPP)) kLP))]),(3,.d kI),(6,.d kLP),(7,.d kI)]) (uNn uLf (uNn (uNn (uNn uLf (uNn (.node (some [(1,.box [.d (.pair kLP (.pair (.sl (.pair kI kPP)) kLP))]),(3,.d kI),(6,.d kLP),(7,.d kI),(117,.d .bool)]) none uLf uLf) uLf)) uLf) uLf)) uLf) uLf))))) uLf) uLf)) uLf) uLf)) (uNn (uNn uLf (uNn (.node none (some [(1,.box [.d (.pair kLP (.pair (.sl (.pair kI kPP)) kLP))]),(8,.d kI)]) (uNn uLf (uNn (uNn (uNn uLf (uNn (uNn (.node (some [(1,.box [.d (.pair kLP (.pair (.sl (.pair kI kPP)) kLP))]),(8,.d kI),(9,.box [.d kPP]),(174,.d .bool)]) none uLf uLf) uLf) (uNn (.node (some [(1,.box [.d (.pair kLP (.pair (.sl (.pair kI kPP)) kLP))]),(8,.d kI),(192,.d .bool)]) none uLf uLf) uLf))) uLf) uLf)) uLf) uLf)) uLf))
def JZ (k : Nat) (Jk : LPt → Int → Int → Int → Option ((Int × PPt) × Bool)) (Qc : (Int × PPt) → (Int × PPt) → Option Bool) (qI : (Int × PPt) → Option LPt) (qm : LTr → Int → Int → Option Int) (q7 : LPt → Int → Int → Option Bool) (a0 : TMs) : Option Int :=
 zA (α := (TMs × Int)) (fun (x1, x2) next0 =>
 bif decide (x2 < (x1.2.1.length : Int)) then
 gd (inb x2 x1.2.1.length) <|
 gd (inb x2 x1.2.1.length) <|
 gd (inb x2 x1.2.1.length) <|
 bnd (Jk x1.1 (rdD (0, 0, 0) x1.2.1 x2).1 (rdD (0, 0, 0) x1.2.1 x2).2.1 (rdD (0, 0, 0) x1.2.1 x2).2.2) fun r3 =>
 zz (α := (TMs × (Int × ((Int × PPt) × Bool)))) (fun (y4, y5, y6, y7) =>
 bif y7 then
 some 2
 else
 bnd (qI (y6.1, y6.2.1, y6.2.2)) fun r8 =>
 zA (α := (TMs × (Int × (LPt × Int)))) (fun (x10, x11, x12, x13) next9 =>
 bif decide (x13 < 3) then
 gd (inb x13 x12.length) <|
 gd (inb x13 x12.length) <|
 bnd (qm x10.2.1 (rdD (0, 0) x12 x13).1 (rdD (0, 0) x12 x13).2) fun r14 =>
 bif !(decide (r14 = x11)) then
 some 2
 else
 zz (α := (TMs × (Int × (LPt × (Int × Bool))))) (fun (y15, y16, y17, y18, y19) =>
 bif y19 then
 some 2
 else
 next9 ((y15.1, y15.2.1, y15.2.2), y16, y17, w64 (y18 + 1))) fun j20 =>
 gd (inb x13 x12.length) <|
 gd (inb x13 x12.length) <|
 bnd (qm x10.2.1 (rdD (0, 0) x12 x13).2 (rdD (0, 0) x12 x13).1) fun r21 =>
 bif decide (r21 < 0) then
 gd (inb x13 x12.length) <|
 gd (inb x13 x12.length) <|
 bnd (q7 x10.2.2 (rdD (0, 0) x12 x13).1 (rdD (0, 0) x12 x13).2) fun r22 =>
 j20 ((x10.1, x10.2.1, x10.2.2), x11, x12, x13, !r22)
 else
 j20 ((x10.1, x10.2.1, x10.2.2), x11, x12, x13, false)
 else
 next0 ((x10.1, x10.2.1, x10.2.2), w64 (x11 + 1))) k ((y4.1, y4.2.1, y4.2.2), y5, r8, 0)) fun j23 =>
 bif !r3.2 then
 j23 ((x1.1, x1.2.1, x1.2.2), x2, (r3.1.1, r3.1.2.1, r3.1.2.2), true)
 else
 gd (inb x2 x1.2.1.length) <|
 bif !((decide (r3.1.1 = (rdD (0, 0, 0) x1.2.1 x2).1)) && ((decide (r3.1.2.1 = (rdD (0, 0, 0) x1.2.1 x2).2.1)) && (decide (r3.1.2.2 = (rdD (0, 0, 0) x1.2.1 x2).2.2)))) then
 j23 ((x1.1, x1.2.1, x1.2.2), x2, (r3.1.1, r3.1.2.1, r3.1.2.2), true)
 else
 bif decide (x2 > 0) then
 gd (inb (w64 (x2 - 1)) x1.2.1.length) <|
 bnd (Qc ((rdD (0, 0, 0) x1.2.1 (w64 (x2 - 1))).1, (rdD (0, 0, 0) x1.2.1 (w64 (x2 - 1))).2.1, (rdD (0, 0, 0) x1.2.1 (w64 (x2 - 1))).2.2) (r3.1.1, r3.1.2.1, r3.1.2.2)) fun r24 =>
 j23 ((x1.1, x1.2.1, x1.2.2), x2, (r3.1.1, r3.1.2.1, r3.1.2.2), !r24)
 else
 j23 ((x1.1, x1.2.1, x1.2.2), x2, (r3.1.1, r3.1.2.1, r3.1.2.2), false)
 else
 zA (α := (TMs × Int)) (fun (x26, x27) next25 =>
 bif decide (x27 < (x26.2.2.length : Int)) then
 gd (inb x27 x26.2.2.length) <|
 zz (α := (TMs × (Int × (PPt × Bool)))) (fun (y28, y29, y30, y31) =>
 bif y31 then
 some 2
 else
 zz (α := (TMs × (Int × Bool))) (fun (y32, y33, y34) =>
 bif y34 then
 some 2
 else
 next25 ((y32.1, y32.2.1, y32.2.2), w64 (y33 + 1))) fun j35 =>
 bnd (qm y28.2.1 y30.1 y30.2) fun r36 =>
 bif decide (r36 < 0) then
 bnd (qm y28.2.1 y30.2 y30.1) fun r37 =>
 j35 ((y28.1, y28.2.1, y28.2.2), y29, decide (r37 < 0))
 else
 j35 ((y28.1, y28.2.1, y28.2.2), y29, false)) fun j38 =>
 bif decide ((rdD (0, 0) x26.2.2 x27).1 ≥ (rdD (0, 0) x26.2.2 x27).2) then
 j38 ((x26.1, x26.2.1, x26.2.2), x27, ((rdD (0, 0) x26.2.2 x27).1, (rdD (0, 0) x26.2.2 x27).2), true)
 else
 bif decide (x27 > 0) then
 gd (inb (w64 (x27 - 1)) x26.2.2.length) <|
 bif decide ((rdD (0, 0) x26.2.2 (w64 (x27 - 1))).1 > (rdD (0, 0) x26.2.2 x27).1) then
 j38 ((x26.1, x26.2.1, x26.2.2), x27, ((rdD (0, 0) x26.2.2 x27).1, (rdD (0, 0) x26.2.2 x27).2), true)
 else
 gd (inb (w64 (x27 - 1)) x26.2.2.length) <|
 bif decide ((rdD (0, 0) x26.2.2 (w64 (x27 - 1))).1 = (rdD (0, 0) x26.2.2 x27).1) then
 gd (inb (w64 (x27 - 1)) x26.2.2.length) <|
 j38 ((x26.1, x26.2.1, x26.2.2), x27, ((rdD (0, 0) x26.2.2 x27).1, (rdD (0, 0) x26.2.2 x27).2), decide ((rdD (0, 0) x26.2.2 (w64 (x27 - 1))).2 ≥ (rdD (0, 0) x26.2.2 x27).2))
 else
 j38 ((x26.1, x26.2.1, x26.2.2), x27, ((rdD (0, 0) x26.2.2 x27).1, (rdD (0, 0) x26.2.2 x27).2), false)
 else
 j38 ((x26.1, x26.2.1, x26.2.2), x27, ((rdD (0, 0) x26.2.2 x27).1, (rdD (0, 0) x26.2.2 x27).2), false)
 else
 some 0) k ((x1.1, x1.2.1, x1.2.2), 0)) k ((a0.1, a0.2.1, a0.2.2), 0)
theorem zex (k:Nat) (Jk:LPt→Int→Int→Int→Option ((Int×PPt)×Bool)) (Qc:(Int×PPt)→(Int×PPt)→Option Bool) (qI:(Int×PPt)→Option LPt) (qm:LTr→Int→Int→Option Int) (q7:LPt→Int→Int→Option Bool) (a0:TMs):zP [⟨41,[.d kLP,.d kI,.d kI,.d kI],[.pair kI kPP,.bool],fun x=>Jk (x.1) (x.2.1) (x.2.2.1) (x.2.2.2),none⟩,⟨62,[.d (.pair kI kPP),.d (.pair kI kPP)],[.bool],fun x=>Qc (x.1) (x.2),none⟩,⟨63,[.d (.pair kI kPP)],[.sl kPP],fun x=>qI x,none⟩,⟨29,[.d (.sl (.pair kI kPP)),.d kI,.d kI],[kI],fun x=>qm (x.1) (x.2.1) (x.2.2),none⟩,⟨28,[.d kLP,.d kI,.d kI],[.bool],fun x=>q7 (x.1) (x.2.1) (x.2.2),none⟩] tb k Tryz.f22 Y2 [.d (.pair kLP (.pair (.sl (.pair kI kPP)) kLP))] [kI] a0=JZ k Jk Qc qI qm q7 a0:=by kernel_rfl
def jL (k:Nat) (a0:TMs):Option Int:=JZ k (Zm k) (jd k) (qN k) (qd k) (qP k) a0
theorem zct (k:Nat):zx Tryz.prog 22 [.d (.pair kLP (.pair (.sl (.pair kI kPP)) kLP))] [kI] (fun x=>jL k x):=fun x y h=>zk zR mix (zp.cons (ze.of rfl (zdw k)) (zp.cons (ze.of rfl (zbI k)) (zp.cons (ze.of rfl (K5 k)) (zp.cons (ze.of rfl (Yo k)) (zp.cons (ze.of rfl (YQ k)) (zp.nil _)))))) Tryz.func22 (N:=k) (an:=Y2) (by kernel_rfl) x y ((zex k (Zm k) (jd k) (qN k) (qd k) (qP k) x).trans h)
def JT:Ann:=uNn uLf (uNn uLf (uNn (uNn uLf (uNn (.node none (some [(0,.d kLP),(1,.d kLP),(5,.d kI)]) uLf uLf) uLf)) uLf))
def qZ (k : Nat) (a0 : LPt) (a1 : LPt) : Option Bool :=
 bif !(decide ((a0.length : Int) = (a1.length : Int))) then
 some false
 else
 zA (α := (LPt × (LPt × Int))) (fun (x1, x2, x3) next0 =>
 bif decide (x3 < (x1.length : Int)) then
 gd (inb x3 x1.length) <|
 gd (inb x3 x2.length) <|
 bif !((decide ((rdD (0, 0) x1 x3).1 = (rdD (0, 0) x2 x3).1)) && (decide ((rdD (0, 0) x1 x3).2 = (rdD (0, 0) x2 x3).2))) then
 some false
 else
 next0 (x1, x2, w64 (x3 + 1))
 else
 some true) k (a0, a1, 0)
theorem zbu (k:Nat) (a0:LPt) (a1:LPt):zP [] tb k Tryz.f23 JT [.d kLP,.d kLP] [.bool] (a0,a1)=qZ k a0 a1:=by kernel_rfl
theorem zae (k:Nat):zx Tryz.prog 23 [.d kLP,.d kLP] [.bool] (fun x=>qZ k (x.1) (x.2)):=fun x y h=>zk zR mix (zp.nil _) Tryz.func23 (N:=k) (an:=JT) (by kernel_rfl) x y ((zbu k (x.1) (x.2)).trans h)
def X5:Ann:=uNn uLf (uNn (.node (some [(2,.d .bool)]) none uLf uLf) uLf)
def js (k : Nat) (a0 : TPl) : Option Bool :=
 zz (α := Bool) (fun y0 =>
 some y0) fun j1 =>
 bif decide ((a0.1.length : Int) > 24) then
 bif decide ((a0.1.length : Int) ≤ 200) then
 j1 true
 else
 bif decide ((a0.2.1.length : Int) > 60) then
 bif decide ((a0.2.1.length : Int) ≤ 400) then
 j1 true
 else
 bif decide ((a0.2.2.length : Int) > 60) then
 bif decide ((a0.2.2.length : Int) ≤ 400) then
 j1 true
 else
 bif decide ((a0.1.length : Int) > 300) then
 j1 true
 else
 bif decide ((a0.2.1.length : Int) > 500) then
 j1 true
 else
 j1 (decide ((a0.2.2.length : Int) > 500))
 else
 bif decide ((a0.1.length : Int) > 300) then
 j1 true
 else
 bif decide ((a0.2.1.length : Int) > 500) then
 j1 true
 else
 j1 (decide ((a0.2.2.length : Int) > 500))
 else
 bif decide ((a0.2.2.length : Int) > 60) then
 bif decide ((a0.2.2.length : Int) ≤ 400) then
 j1 true
 else
 bif decide ((a0.1.length : Int) > 300) then
 j1 true
 else
 bif decide ((a0.2.1.length : Int) > 500) then
 j1 true
 else
 j1 (decide ((a0.2.2.length : Int) > 500))
 else
 bif decide ((a0.1.length : Int) > 300) then
 j1 true
 else
 bif decide ((a0.2.1.length : Int) > 500) then
 j1 true
 else
 j1 (decide ((a0.2.2.length : Int) > 500))
 else
 bif decide ((a0.2.1.length : Int) > 60) then
 bif decide ((a0.2.1.length : Int) ≤ 400) then
 j1 true
 else
 bif decide ((a0.2.2.length : Int) > 60) then
 bif decide ((a0.2.2.length : Int) ≤ 400) then
 j1 true
 else
 bif decide ((a0.1.length : Int) > 300) then
 j1 true
 else
 bif decide ((a0.2.1.length : Int) > 500) then
 j1 true
 else
 j1 (decide ((a0.2.2.length : Int) > 500))
 else
 bif decide ((a0.1.length : Int) > 300) then
 j1 true
 else
 bif decide ((a0.2.1.length : Int) > 500) then
 j1 true
 else
 j1 (decide ((a0.2.2.length : Int) > 500))
 else
 bif decide ((a0.2.2.length : Int) > 60) then
 bif decide ((a0.2.2.length : Int) ≤ 400) then
 j1 true
 else
 bif decide ((a0.1.length : Int) > 300) then
 j1 true
 else
 bif decide ((a0.2.1.length : Int) > 500) then
 j1 true
 else
 j1 (decide ((a0.2.2.length : Int) > 500))
 else
 bif decide ((a0.1.length : Int) > 300) then
 j1 true
 else
 bif decide ((a0.2.1.length : Int) > 500) then
 j1 true
 else
 j1 (decide ((a0.2.2.length : Int) > 500))
theorem zfr (k:Nat) (a0:TPl):zP [] tb k Tryz.f10 X5 [.d kPl] [.bool] a0=js k a0:=by kernel_rfl
theorem zcx (k:Nat):zx Tryz.prog 10 [.d kPl] [.bool] (fun x=>js k x):=fun x y h=>zk zR mix (zp.nil _) Tryz.func10 (N:=k) (an:=X5) (by kernel_rfl) x y ((zfr k x).trans h)
def Xb:Ann:=uNn uLf (uNn uLf (uNn (uNn (.node (some [(1,.box [.d kPl]),(3,.d kI),(23,.d .bool)]) none uLf uLf) uLf) (uNn (uNn uLf (uNn (.node none (some [(1,.box [.d kPl]),(3,.d kI),(4,.d kI)]) (uNn uLf (uNn (uNn (uNn (.node (some [(1,.box [.d kPl]),(3,.d kI),(4,.d kI),(62,.d .bool)]) none uLf uLf) uLf) uLf) uLf)) uLf) uLf)) (uNn (uNn uLf (uNn (.node none (some [(1,.box [.d kPl]),(3,.d kI),(5,.d kI)]) (uNn uLf (uNn (uNn (uNn uLf (uNn (uNn uLf (.node (some [(1,.box [.d kPl]),(3,.d kI),(5,.d kI),(6,.box [.d kPP])]) none uLf uLf)) (uNn (.node (some [(1,.box [.d kPl]),(3,.d kI),(5,.d kI),(113,.d .bool)]) none uLf uLf) uLf))) uLf) uLf)) uLf) uLf)) uLf))))
def qX (k : Nat) (a0 : TPl) : Option Int :=
 zz (α := (TPl × (Int × Bool))) (fun (y0, y1, y2) =>
 bif y2 then
 some 2
 else
 zA (α := (TPl × PPt)) (fun (x4, x5, x6) next3 =>
 bif decide (x6 < x5) then
 zz (α := (TPl × (Int × (Int × Bool)))) (fun (y7, y8, y9, y10) =>
 bif y10 then
 some 2
 else
 next3 ((y7.1, y7.2.1, y7.2.2), y8, w64 (y9 + 1))) fun j11 =>
 gd (inb x6 x4.1.length) <|
 bif decide ((rdD (0, 0) x4.1 x6).1 > 1048576) then
 j11 ((x4.1, x4.2.1, x4.2.2), x5, x6, true)
 else
 gd (inb x6 x4.1.length) <|
 bif decide ((rdD (0, 0) x4.1 x6).1 < (-1048576)) then
 j11 ((x4.1, x4.2.1, x4.2.2), x5, x6, true)
 else
 gd (inb x6 x4.1.length) <|
 bif decide ((rdD (0, 0) x4.1 x6).2 > 1048576) then
 j11 ((x4.1, x4.2.1, x4.2.2), x5, x6, true)
 else
 gd (inb x6 x4.1.length) <|
 j11 ((x4.1, x4.2.1, x4.2.2), x5, x6, decide ((rdD (0, 0) x4.1 x6).2 < (-1048576)))
 else
 zA (α := (TPl × PPt)) (fun (x13, x14, x15) next12 =>
 bif decide (x15 < (w64 ((x13.2.1.length : Int) + (x13.2.2.length : Int)))) then
 zz (α := (TPl × (Int × (Int × PPt)))) (fun (y16, y17, y18, y19, y20) =>
 zz (α := (TPl × (Int × (Int × Bool)))) (fun (y21, y22, y23, y24) =>
 bif y24 then
 some 2
 else
 next12 ((y21.1, y21.2.1, y21.2.2), y22, w64 (y23 + 1))) fun j25 =>
 bif decide (y19 < 0) then
 j25 ((y16.1, y16.2.1, y16.2.2), y17, y18, true)
 else
 bif decide (y19 ≥ y17) then
 j25 ((y16.1, y16.2.1, y16.2.2), y17, y18, true)
 else
 bif decide (y20 < 0) then
 j25 ((y16.1, y16.2.1, y16.2.2), y17, y18, true)
 else
 j25 ((y16.1, y16.2.1, y16.2.2), y17, y18, decide (y20 ≥ y17))) fun j26 =>
 bif decide (x15 < (x13.2.1.length : Int)) then
 gd (inb x15 x13.2.1.length) <|
 j26 ((x13.1, x13.2.1, x13.2.2), x14, x15, (rdD (0, 0) x13.2.1 x15).1, (rdD (0, 0) x13.2.1 x15).2)
 else
 gd (inb (w64 (x15 - (x13.2.1.length : Int))) x13.2.2.length) <|
 j26 ((x13.1, x13.2.1, x13.2.2), x14, x15, (rdD (0, 0) x13.2.2 (w64 (x15 - (x13.2.1.length : Int)))).1, (rdD (0, 0) x13.2.2 (w64 (x15 - (x13.2.1.length : Int)))).2)
 else
 some 0) k ((x4.1, x4.2.1, x4.2.2), x5, 0)) k ((y0.1, y0.2.1, y0.2.2), y1, 0)) fun j27 =>
 bif decide ((a0.1.length : Int) > 200) then
 j27 ((a0.1, a0.2.1, a0.2.2), (a0.1.length : Int), true)
 else
 bif decide ((a0.2.1.length : Int) > 400) then
 j27 ((a0.1, a0.2.1, a0.2.2), (a0.1.length : Int), true)
 else
 j27 ((a0.1, a0.2.1, a0.2.2), (a0.1.length : Int), decide ((a0.2.2.length : Int) > 400))
theorem zen (k:Nat) (a0:TPl):zP [] tb k Tryz.f94 Xb [.d kPl] [kI] a0=qX k a0:=by kernel_rfl
theorem zb1 (k:Nat):zx Tryz.prog 94 [.d kPl] [kI] (fun x=>qX k x):=fun x y h=>zk zR mix (zp.nil _) Tryz.func94 (N:=k) (an:=Xb) (by kernel_rfl) x y ((zen k x).trans h)
def zaz:Ann:=uLf
def qr (k : Nat) (a0 : TPl) : Option LPt :=
 gd (few a0.2.1.length) <|
 gd (few (a0.2.1.length + a0.2.2.length)) <|
 some (a0.2.1 ++ a0.2.2)
theorem zge (k:Nat) (a0:TPl):zP [] tb k Tryz.f27 zaz [.d kPl] [.sl kPP] a0=qr k a0:=by kernel_rfl
theorem Jl (k:Nat):zx Tryz.prog 27 [.d kPl] [.sl kPP] (fun x=>qr k x):=fun x y h=>zk zR mix (zp.nil _) Tryz.func27 (N:=k) (an:=zaz) (by kernel_rfl) x y ((zge k x).trans h)
def zbA:Ann:=uNn uLf (uNn uLf (uNn (.node (some [(6,.d .bool)]) none uLf uLf) uLf))
def YY (k : Nat) (zK : Int → Option (Bool × (List Int))) (zI : (Bool × (List Int)) → (Bool × (List Int)) → Option (Bool × (List Int))) (zh : (Bool × (List Int)) → (Bool × (List Int)) → Option (Bool × (List Int))) (zm : PPt → Option Bool) (zU : PPt → PPt → PPt → Option Int) (zv : (Bool × (List Int)) → Option Int) (a0 : PPt) (a1 : PPt) (a2 : PPt) : Option Bool :=
 bnd (zK (w64 (a2.1 - a0.1))) fun r0 =>
 bnd (zK (w64 (a1.1 - a2.1))) fun r1 =>
 bnd (zI (r0.1, r0.2) (r1.1, r1.2)) fun r2 =>
 bnd (zK (w64 (a2.2 - a0.2))) fun r3 =>
 bnd (zK (w64 (a1.2 - a2.2))) fun r4 =>
 bnd (zI (r3.1, r3.2) (r4.1, r4.2)) fun r5 =>
 bnd (zh (r2.1, r2.2) (r5.1, r5.2)) fun r6 =>
 zz (α := Bool) (fun y7 =>
 some y7) fun j8 =>
 bif !((decide (a0.1 = a1.1)) && (decide (a0.2 = a1.2))) then
 bnd (zm (a0.1, a0.2)) fun r9 =>
 bif r9 then
 bnd (zm (a1.1, a1.2)) fun r10 =>
 bif r10 then
 bnd (zm (a2.1, a2.2)) fun r11 =>
 bif r11 then
 bnd (zU (a0.1, a0.2) (a1.1, a1.2) (a2.1, a2.2)) fun r12 =>
 bif decide (r12 = 0) then
 bnd (zv (r6.1, r6.2)) fun r13 =>
 j8 (decide (r13 ≥ 0))
 else
 j8 false
 else
 j8 false
 else
 j8 false
 else
 j8 false
 else
 j8 false
theorem zg7 (k:Nat) (zK:Int→Option (Bool×(List Int))) (zI:(Bool×(List Int))→(Bool×(List Int))→Option (Bool×(List Int))) (zh:(Bool×(List Int))→(Bool×(List Int))→Option (Bool×(List Int))) (zm:PPt→Option Bool) (zU:PPt→PPt→PPt→Option Int) (zv:(Bool×(List Int))→Option Int) (a0:PPt) (a1:PPt) (a2:PPt):zP [⟨102,[.d kI],[.pair .bool (.sl kI)],fun x=>zK x,none⟩,⟨103,[.d (.pair .bool (.sl kI)),.d (.pair .bool (.sl kI))],[.pair .bool (.sl kI)],fun x=>zI (x.1) (x.2),none⟩,⟨64,[.d (.pair .bool (.sl kI)),.d (.pair .bool (.sl kI))],[.pair .bool (.sl kI)],fun x=>zh (x.1) (x.2),none⟩,⟨72,[.d kPP],[.bool],fun x=>zm x,none⟩,⟨73,[.d kPP,.d kPP,.d kPP],[kI],fun x=>zU (x.1) (x.2.1) (x.2.2),none⟩,⟨67,[.d (.pair .bool (.sl kI))],[kI],fun x=>zv x,none⟩] tb k Tryz.f74 zbA [.d kPP,.d kPP,.d kPP] [.bool] (a0,a1,a2)=YY k zK zI zh zm zU zv a0 a1 a2:=by kernel_rfl
def jf (k:Nat) (a0:PPt) (a1:PPt) (a2:PPt):Option Bool:=YY k (zO k) (zQ k) (zn k) (zV k) (qy k) (zD k) a0 a1 a2
theorem JI (k:Nat):zx Tryz.prog 74 [.d kPP,.d kPP,.d kPP] [.bool] (fun x=>jf k (x.1) (x.2.1) (x.2.2)):=fun x y h=>zk zR mix (zp.cons (ze.of rfl (QN k)) (zp.cons (ze.of rfl (ZD k)) (zp.cons (ze.of rfl (qq k)) (zp.cons (ze.of rfl (jh k)) (zp.cons (ze.of rfl (Qk k)) (zp.cons (ze.of rfl (je k)) (zp.nil _))))))) Tryz.func74 (N:=k) (an:=zbA) (by kernel_rfl) x y ((zg7 k (zO k) (zQ k) (zn k) (zV k) (qy k) (zD k) (x.1) (x.2.1) (x.2.2)).trans h)
def X1:Ann:=uNn uLf (uNn (uNn (.node (some [(4,.box [.d kPP]),(5,.box [.d kPP]),(6,.box [.d kPP]),(7,.box [.d kPP]),(40,.d .bool)]) none uLf uLf) uLf) (uNn uLf (uNn uLf (uNn (uNn (.node (some [(4,.box [.d kPP]),(5,.box [.d kPP]),(6,.box [.d kPP]),(7,.box [.d kPP]),(10,.d kI),(11,.d kI),(54,.d .bool)]) none uLf uLf) (uNn (uNn uLf (uNn (uNn uLf (.node (some [(4,.box [.d kPP]),(5,.box [.d kPP]),(6,.box [.d kPP]),(7,.box [.d kPP]),(12,.d kI)]) none uLf uLf)) (uNn (uNn uLf (.node (some [(4,.box [.d kPP]),(5,.box [.d kPP]),(6,.box [.d kPP]),(7,.box [.d kPP]),(12,.d kI)]) none uLf uLf)) (uNn (uNn (.node (some [(5,.box [.d kPP]),(6,.box [.d kPP]),(7,.box [.d kPP]),(12,.d kI),(80,.d .bool)]) none uLf uLf) (.node (some [(5,.box [.d kPP]),(6,.box [.d kPP]),(7,.box [.d kPP]),(12,.d kI)]) none uLf uLf)) (uNn (uNn (.node (some [(12,.d kI),(96,.d .bool)]) none uLf uLf) (.node (some [(12,.d kI)]) none uLf uLf)) uLf))))) uLf)) (uNn (uNn (.node (some [(4,.box [.d kPP]),(5,.box [.d kPP]),(6,.box [.d kPP]),(7,.box [.d kPP]),(10,.d kI),(11,.d kI),(120,.d .bool)]) none uLf uLf) uLf) (uNn (uNn (.node (some [(4,.box [.d kPP]),(5,.box [.d kPP]),(6,.box [.d kPP]),(7,.box [.d kPP]),(10,.d kI),(11,.d kI),(142,.d .bool)]) none uLf uLf) uLf) (uNn (uNn (.node (some [(156,.d .bool)]) none uLf uLf) uLf) uLf)))))))
def KG (k : Nat) (zm : PPt → Option Bool) (zU : PPt → PPt → PPt → Option Int) (zW : PPt → PPt → PPt → Option Bool) (a0 : PPt) (a1 : PPt) (a2 : PPt) (a3 : PPt) : Option PPt :=
 zz (α := (PPt × (PPt × (PPt × (PPt × Bool))))) (fun (y0, y1, y2, y3, y4) =>
 bif y4 then
 some (0, 2)
 else
 bnd (zU (y0.1, y0.2) (y1.1, y1.2) (y2.1, y2.2)) fun r5 =>
 bnd (zU (y0.1, y0.2) (y1.1, y1.2) (y3.1, y3.2)) fun r6 =>
 zz (α := (PPt × (PPt × (PPt × (PPt × (Int × (Int × Bool))))))) (fun (y7, y8, y9, y10, y11, y12, y13) =>
 bif y13 then
 bnd (zW (y7.1, y7.2) (y8.1, y8.2) (y9.1, y9.2)) fun r14 =>
 zz (α := (PPt × (PPt × (PPt × (PPt × Int))))) (fun (y15, y16, y17, y18, y19) =>
 bnd (zW (y15.1, y15.2) (y16.1, y16.2) (y18.1, y18.2)) fun r20 =>
 zz (α := (PPt × (PPt × (PPt × (PPt × Int))))) (fun (y21, y22, y23, y24, y25) =>
 zz (α := (PPt × (PPt × (PPt × (Int × Bool))))) (fun (y26, y27, y28, y29, y30) =>
 zz (α := (PPt × (PPt × (PPt × Int)))) (fun (y31, y32, y33, y34) =>
 zz (α := (Int × Bool)) (fun (y35, y36) =>
 zz (α := Int) (fun y37 =>
 bif decide (y37 ≥ 2) then
 some (4, 0)
 else
 bif decide (y37 = 1) then
 some (1, 0)
 else
 some (0, 0)) fun j38 =>
 bif y36 then
 j38 (w64 (y35 + 1))
 else
 j38 y35) fun j39 =>
 bnd (zW (y32.1, y32.2) (y33.1, y33.2) (y31.1, y31.2)) fun r40 =>
 bif r40 then
 bif !((decide (y31.1 = y32.1)) && (decide (y31.2 = y32.2))) then
 j39 (y34, !((decide (y31.1 = y33.1)) && (decide (y31.2 = y33.2))))
 else
 j39 (y34, false)
 else
 j39 (y34, false)) fun j41 =>
 bif y30 then
 j41 ((y26.1, y26.2), (y27.1, y27.2), (y28.1, y28.2), w64 (y29 + 1))
 else
 j41 ((y26.1, y26.2), (y27.1, y27.2), (y28.1, y28.2), y29)) fun j42 =>
 bnd (zW (y23.1, y23.2) (y24.1, y24.2) (y21.1, y21.2)) fun r43 =>
 bif r43 then
 bif !((decide (y21.1 = y23.1)) && (decide (y21.2 = y23.2))) then
 j42 ((y22.1, y22.2), (y23.1, y23.2), (y24.1, y24.2), y25, !((decide (y21.1 = y24.1)) && (decide (y21.2 = y24.2))))
 else
 j42 ((y22.1, y22.2), (y23.1, y23.2), (y24.1, y24.2), y25, false)
 else
 j42 ((y22.1, y22.2), (y23.1, y23.2), (y24.1, y24.2), y25, false)) fun j44 =>
 bif r20 then
 j44 ((y15.1, y15.2), (y16.1, y16.2), (y17.1, y17.2), (y18.1, y18.2), w64 (y19 + 1))
 else
 j44 ((y15.1, y15.2), (y16.1, y16.2), (y17.1, y17.2), (y18.1, y18.2), y19)) fun j45 =>
 bif r14 then
 j45 ((y7.1, y7.2), (y8.1, y8.2), (y9.1, y9.2), (y10.1, y10.2), 1)
 else
 j45 ((y7.1, y7.2), (y8.1, y8.2), (y9.1, y9.2), (y10.1, y10.2), 0)
 else
 zz (α := (PPt × (PPt × (PPt × (PPt × (Int × (Int × Bool))))))) (fun (y46, y47, y48, y49, y50, y51, y52) =>
 bif y52 then
 some (1, 0)
 else
 zz (α := (PPt × (PPt × (PPt × (PPt × (Int × (Int × Bool))))))) (fun (y53, y54, y55, y56, y57, y58, y59) =>
 bif y59 then
 some (2, 0)
 else
 zz (α := Bool) (fun y60 =>
 bif y60 then
 some (3, 0)
 else
 some (0, 0)) fun j61 =>
 bif !(decide (y57 = y58)) then
 bnd (zU (y55.1, y55.2) (y56.1, y56.2) (y53.1, y53.2)) fun r62 =>
 bnd (zU (y55.1, y55.2) (y56.1, y56.2) (y54.1, y54.2)) fun r63 =>
 j61 (!(decide (r62 = r63)))
 else
 j61 false) fun j64 =>
 bnd (zW (y46.1, y46.2) (y47.1, y47.2) (y48.1, y48.2)) fun r65 =>
 bif r65 then
 j64 ((y46.1, y46.2), (y47.1, y47.2), (y48.1, y48.2), (y49.1, y49.2), y50, y51, true)
 else
 bnd (zW (y46.1, y46.2) (y47.1, y47.2) (y49.1, y49.2)) fun r66 =>
 bif r66 then
 j64 ((y46.1, y46.2), (y47.1, y47.2), (y48.1, y48.2), (y49.1, y49.2), y50, y51, true)
 else
 bnd (zW (y48.1, y48.2) (y49.1, y49.2) (y46.1, y46.2)) fun r67 =>
 bif r67 then
 j64 ((y46.1, y46.2), (y47.1, y47.2), (y48.1, y48.2), (y49.1, y49.2), y50, y51, true)
 else
 bnd (zW (y48.1, y48.2) (y49.1, y49.2) (y47.1, y47.2)) fun r68 =>
 j64 ((y46.1, y46.2), (y47.1, y47.2), (y48.1, y48.2), (y49.1, y49.2), y50, y51, r68)) fun j69 =>
 bif (decide (y7.1 = y9.1)) && (decide (y7.2 = y9.2)) then
 j69 ((y7.1, y7.2), (y8.1, y8.2), (y9.1, y9.2), (y10.1, y10.2), y11, y12, true)
 else
 bif (decide (y7.1 = y10.1)) && (decide (y7.2 = y10.2)) then
 j69 ((y7.1, y7.2), (y8.1, y8.2), (y9.1, y9.2), (y10.1, y10.2), y11, y12, true)
 else
 bif (decide (y8.1 = y9.1)) && (decide (y8.2 = y9.2)) then
 j69 ((y7.1, y7.2), (y8.1, y8.2), (y9.1, y9.2), (y10.1, y10.2), y11, y12, true)
 else
 j69 ((y7.1, y7.2), (y8.1, y8.2), (y9.1, y9.2), (y10.1, y10.2), y11, y12, (decide (y8.1 = y10.1)) && (decide (y8.2 = y10.2)))) fun j70 =>
 bif decide (r5 = 0) then
 j70 ((y0.1, y0.2), (y1.1, y1.2), (y2.1, y2.2), (y3.1, y3.2), r5, r6, decide (r6 = 0))
 else
 j70 ((y0.1, y0.2), (y1.1, y1.2), (y2.1, y2.2), (y3.1, y3.2), r5, r6, false)) fun j71 =>
 bif (decide (a0.1 = a1.1)) && (decide (a0.2 = a1.2)) then
 j71 ((a0.1, a0.2), (a1.1, a1.2), (a2.1, a2.2), (a3.1, a3.2), true)
 else
 bif (decide (a2.1 = a3.1)) && (decide (a2.2 = a3.2)) then
 j71 ((a0.1, a0.2), (a1.1, a1.2), (a2.1, a2.2), (a3.1, a3.2), true)
 else
 bnd (zm (a0.1, a0.2)) fun r72 =>
 bif !r72 then
 j71 ((a0.1, a0.2), (a1.1, a1.2), (a2.1, a2.2), (a3.1, a3.2), true)
 else
 bnd (zm (a1.1, a1.2)) fun r73 =>
 bif !r73 then
 j71 ((a0.1, a0.2), (a1.1, a1.2), (a2.1, a2.2), (a3.1, a3.2), true)
 else
 bnd (zm (a2.1, a2.2)) fun r74 =>
 bif !r74 then
 j71 ((a0.1, a0.2), (a1.1, a1.2), (a2.1, a2.2), (a3.1, a3.2), true)
 else
 bnd (zm (a3.1, a3.2)) fun r75 =>
 j71 ((a0.1, a0.2), (a1.1, a1.2), (a2.1, a2.2), (a3.1, a3.2), !r75)
theorem zfu (k:Nat) (zm:PPt→Option Bool) (zU:PPt→PPt→PPt→Option Int) (zW:PPt→PPt→PPt→Option Bool) (a0:PPt) (a1:PPt) (a2:PPt) (a3:PPt):zP [⟨72,[.d kPP],[.bool],fun x=>zm x,none⟩,⟨73,[.d kPP,.d kPP,.d kPP],[kI],fun x=>zU (x.1) (x.2.1) (x.2.2),none⟩,⟨74,[.d kPP,.d kPP,.d kPP],[.bool],fun x=>zW (x.1) (x.2.1) (x.2.2),none⟩] tb k Tryz.f32 X1 [.d kPP,.d kPP,.d kPP,.d kPP] [kI,kI] (a0,a1,a2,a3)=KG k zm zU zW a0 a1 a2 a3:=by kernel_rfl
def j3 (k:Nat) (a0:PPt) (a1:PPt) (a2:PPt) (a3:PPt):Option PPt:=KG k (zV k) (qy k) (jf k) a0 a1 a2 a3
theorem zdh (k:Nat):zx Tryz.prog 32 [.d kPP,.d kPP,.d kPP,.d kPP] [kI,kI] (fun x=>j3 k (x.1) (x.2.1) (x.2.2.1) (x.2.2.2)):=fun x y h=>zk zR mix (zp.cons (ze.of rfl (jh k)) (zp.cons (ze.of rfl (Qk k)) (zp.cons (ze.of rfl (JI k)) (zp.nil _)))) Tryz.func32 (N:=k) (an:=X1) (by kernel_rfl) x y ((zfu k (zV k) (qy k) (jf k) (x.1) (x.2.1) (x.2.2.1) (x.2.2.2)).trans h)
def YD:Ann:=uNn uLf (uNn (.node (some [(6,.d .bool)]) none uLf uLf) uLf)
def JG (k : Nat) (zW : PPt → PPt → PPt → Option Bool) (a0 : PPt) (a1 : PPt) (a2 : PPt) : Option Bool :=
 zz (α := Bool) (fun y0 =>
 some y0) fun j1 =>
 bnd (zW (a0.1, a0.2) (a1.1, a1.2) (a2.1, a2.2)) fun r2 =>
 bif r2 then
 bif !((decide (a2.1 = a0.1)) && (decide (a2.2 = a0.2))) then
 j1 (!((decide (a2.1 = a1.1)) && (decide (a2.2 = a1.2))))
 else
 j1 false
 else
 j1 false
theorem zdy (k:Nat) (zW:PPt→PPt→PPt→Option Bool) (a0:PPt) (a1:PPt) (a2:PPt):zP [⟨74,[.d kPP,.d kPP,.d kPP],[.bool],fun x=>zW (x.1) (x.2.1) (x.2.2),none⟩] tb k Tryz.f38 YD [.d kPP,.d kPP,.d kPP] [.bool] (a0,a1,a2)=JG k zW a0 a1 a2:=by kernel_rfl
def ju (k:Nat) (a0:PPt) (a1:PPt) (a2:PPt):Option Bool:=JG k (jf k) a0 a1 a2
theorem zbD (k:Nat):zx Tryz.prog 38 [.d kPP,.d kPP,.d kPP] [.bool] (fun x=>ju k (x.1) (x.2.1) (x.2.2)):=fun x y h=>zk zR mix (zp.cons (ze.of rfl (JI k)) (zp.nil _)) Tryz.func38 (N:=k) (an:=YD) (by kernel_rfl) x y ((zdy k (jf k) (x.1) (x.2.1) (x.2.2)).trans h)
def Xh:Ann:=uNn uLf (uNn (uNn uLf (uNn (.node none (some [(1,.box [.d kPl]),(2,.box [.d (.pair kI kPP)]),(3,.d kI)]) (uNn uLf (uNn (uNn (uNn uLf (uNn (.node none (some [(1,.box [.d kPl]),(2,.box [.d (.pair kI kPP)]),(3,.d kI),(4,.d kI)]) uLf uLf) uLf)) uLf) uLf)) uLf) uLf)) (uNn uLf (uNn (uNn uLf (uNn (.node none (some [(1,.box [.d kPl]),(2,.box [.d (.pair kI kPP)]),(5,.d kLP),(6,.d kI)]) uLf uLf) uLf)) (uNn (uNn uLf (uNn (.node none (some [(1,.box [.d kPl]),(2,.box [.d (.pair kI kPP)]),(5,.d kLP),(7,.d kI)]) (uNn uLf (uNn (uNn (uNn uLf (uNn (.node none (some [(1,.box [.d kPl]),(2,.box [.d (.pair kI kPP)]),(5,.d kLP),(7,.d kI),(8,.d kI)]) uLf uLf) uLf)) uLf) uLf)) uLf) uLf)) (uNn (uNn uLf (uNn (.node none (some [(1,.box [.d kPl]),(2,.box [.d (.pair kI kPP)]),(5,.d kLP),(11,.d kI)]) (uNn uLf (uNn (uNn (uNn uLf (uNn (.node none (some [(1,.box [.d kPl]),(2,.box [.d (.pair kI kPP)]),(5,.d kLP),(11,.d kI),(12,.d kI)]) uLf uLf) uLf)) uLf) uLf)) uLf) uLf)) uLf)))))
def Kh (k : Nat) (ql : TPl → Option LPt) (QU : PPt → PPt → PPt → PPt → Option PPt) (Qg : PPt → PPt → PPt → Option Bool) (a0 : TPl) : Option (Int × PPt) :=
 zA (α := (TPl × ((Int × PPt) × Int))) (fun (x1, x2, x3) next0 =>
 bif decide (x3 < (x1.1.length : Int)) then
 zA (α := (TPl × ((Int × PPt) × PPt))) (fun (x5, x6, x7, x8) next4 =>
 bif decide (x8 < (x5.1.length : Int)) then
 gd (inb x7 x5.1.length) <|
 gd (inb x8 x5.1.length) <|
 bif (decide ((rdD (0, 0) x5.1 x7).1 = (rdD (0, 0) x5.1 x8).1)) && (decide ((rdD (0, 0) x5.1 x7).2 = (rdD (0, 0) x5.1 x8).2)) then
 some (1, x7, x8)
 else
 next4 ((x5.1, x5.2.1, x5.2.2), (x6.1, x6.2.1, x6.2.2), x7, w64 (x8 + 1))
 else
 next0 ((x5.1, x5.2.1, x5.2.2), (x6.1, x6.2.1, x6.2.2), w64 (x7 + 1))) k ((x1.1, x1.2.1, x1.2.2), (x2.1, x2.2.1, x2.2.2), x3, w64 (x3 + 1))
 else
 bnd (ql (x1.1, x1.2.1, x1.2.2)) fun r9 =>
 zA (α := (TPl × ((Int × PPt) × (LPt × Int)))) (fun (x11, x12, x13, x14) next10 =>
 bif decide (x14 < (x13.length : Int)) then
 gd (inb x14 x13.length) <|
 gd (inb x14 x13.length) <|
 bif decide ((rdD (0, 0) x13 x14).1 = (rdD (0, 0) x13 x14).2) then
 some (2, x14, 0)
 else
 next10 ((x11.1, x11.2.1, x11.2.2), (x12.1, x12.2.1, x12.2.2), x13, w64 (x14 + 1))
 else
 zA (α := (TPl × ((Int × PPt) × (LPt × Int)))) (fun (x16, x17, x18, x19) next15 =>
 bif decide (x19 < (x18.length : Int)) then
 zA (α := (TPl × ((Int × PPt) × (LPt × PPt)))) (fun (x21, x22, x23, x24, x25) next20 =>
 bif decide (x25 < (x23.length : Int)) then
 gd (inb x24 x23.length) <|
 gd (inb (rdD (0, 0) x23 x24).1 x21.1.length) <|
 gd (inb x24 x23.length) <|
 gd (inb (rdD (0, 0) x23 x24).2 x21.1.length) <|
 gd (inb x25 x23.length) <|
 gd (inb (rdD (0, 0) x23 x25).1 x21.1.length) <|
 gd (inb x25 x23.length) <|
 gd (inb (rdD (0, 0) x23 x25).2 x21.1.length) <|
 bnd (QU ((rdD (0, 0) x21.1 (rdD (0, 0) x23 x24).1).1, (rdD (0, 0) x21.1 (rdD (0, 0) x23 x24).1).2) ((rdD (0, 0) x21.1 (rdD (0, 0) x23 x24).2).1, (rdD (0, 0) x21.1 (rdD (0, 0) x23 x24).2).2) ((rdD (0, 0) x21.1 (rdD (0, 0) x23 x25).1).1, (rdD (0, 0) x21.1 (rdD (0, 0) x23 x25).1).2) ((rdD (0, 0) x21.1 (rdD (0, 0) x23 x25).2).1, (rdD (0, 0) x21.1 (rdD (0, 0) x23 x25).2).2)) fun r26 =>
 bif decide (r26.1 > 1) then
 some (3, x24, x25)
 else
 next20 ((x21.1, x21.2.1, x21.2.2), (x22.1, x22.2.1, x22.2.2), x23, x24, w64 (x25 + 1))
 else
 next15 ((x21.1, x21.2.1, x21.2.2), (x22.1, x22.2.1, x22.2.2), x23, w64 (x24 + 1))) k ((x16.1, x16.2.1, x16.2.2), (x17.1, x17.2.1, x17.2.2), x18, x19, w64 (x19 + 1))
 else
 zA (α := (TPl × ((Int × PPt) × (LPt × Int)))) (fun (x28, x29, x30, x31) next27 =>
 bif decide (x31 < (x28.1.length : Int)) then
 zA (α := (TPl × ((Int × PPt) × (LPt × PPt)))) (fun (x33, x34, x35, x36, x37) next32 =>
 bif decide (x37 < (x35.length : Int)) then
 gd (inb x37 x35.length) <|
 gd (inb (rdD (0, 0) x35 x37).1 x33.1.length) <|
 gd (inb x37 x35.length) <|
 gd (inb (rdD (0, 0) x35 x37).2 x33.1.length) <|
 gd (inb x36 x33.1.length) <|
 bnd (Qg ((rdD (0, 0) x33.1 (rdD (0, 0) x35 x37).1).1, (rdD (0, 0) x33.1 (rdD (0, 0) x35 x37).1).2) ((rdD (0, 0) x33.1 (rdD (0, 0) x35 x37).2).1, (rdD (0, 0) x33.1 (rdD (0, 0) x35 x37).2).2) ((rdD (0, 0) x33.1 x36).1, (rdD (0, 0) x33.1 x36).2)) fun r38 =>
 bif r38 then
 some (4, x36, x37)
 else
 next32 ((x33.1, x33.2.1, x33.2.2), (x34.1, x34.2.1, x34.2.2), x35, x36, w64 (x37 + 1))
 else
 next27 ((x33.1, x33.2.1, x33.2.2), (x34.1, x34.2.1, x34.2.2), x35, w64 (x36 + 1))) k ((x28.1, x28.2.1, x28.2.2), (x29.1, x29.2.1, x29.2.2), x30, x31, 0)
 else
 some (0, 0, 0)) k ((x16.1, x16.2.1, x16.2.2), (x17.1, x17.2.1, x17.2.2), x18, 0)) k ((x11.1, x11.2.1, x11.2.2), (x12.1, x12.2.1, x12.2.2), x13, 0)) k ((x1.1, x1.2.1, x1.2.2), (x2.1, x2.2.1, x2.2.2), r9, 0)) k ((a0.1, a0.2.1, a0.2.2), (0, 0, 0), 0)
theorem zeq (k:Nat) (ql:TPl→Option LPt) (QU:PPt→PPt→PPt→PPt→Option PPt) (Qg:PPt→PPt→PPt→Option Bool) (a0:TPl):zP [⟨27,[.d kPl],[.sl kPP],fun x=>ql x,none⟩,⟨32,[.d kPP,.d kPP,.d kPP,.d kPP],[kI,kI],fun x=>QU (x.1) (x.2.1) (x.2.2.1) (x.2.2.2),none⟩,⟨38,[.d kPP,.d kPP,.d kPP],[.bool],fun x=>Qg (x.1) (x.2.1) (x.2.2),none⟩] tb k Tryz.f95 Xh [.d kPl] [.pair kI kPP] a0=Kh k ql QU Qg a0:=by kernel_rfl
def jK (k:Nat) (a0:TPl):Option (Int×PPt):=Kh k (qr k) (j3 k) (ju k) a0
theorem zce (k:Nat):zx Tryz.prog 95 [.d kPl] [.pair kI kPP] (fun x=>jK k x):=fun x y h=>zk zR mix (zp.cons (ze.of rfl (Jl k)) (zp.cons (ze.of rfl (zdh k)) (zp.cons (ze.of rfl (zbD k)) (zp.nil _)))) Tryz.func95 (N:=k) (an:=Xh) (by kernel_rfl) x y ((zeq k (qr k) (j3 k) (ju k) x).trans h)
end
end Go.Proofs.YtpkkcjmblocjdaaGreat.AM
