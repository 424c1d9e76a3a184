/- The functions, by their texts: written by a program. -/
import Derived.Test.YtpkkcjmblocjdaaGreatGa3
import Derived.Test.YtpkkcjmblocjdaaGreatCln
set_option linter.unusedVariables false
set_option linter.unusedSimpArgs false
set_option linter.unusedSectionVars false
set_option maxRecDepth 100000
namespace Go.Proofs.YtpkkcjmblocjdaaGreat.AM
open Go.RowKit Go.Proofs
noncomputable section
def zcP:Ann:=uNn uLf (uNn uLf (uNn uLf (uNn (uNn uLf (uNn (.node none (some [(0,.d kLP),(1,.d kLP),(8,.d kI),(9,.box [.d kPP]),(16,.d (.sl kI)),(17,.d kI),(18,.d kI)]) (uNn uLf (uNn uLf (uNn (uNn (uNn uLf (uNn (uNn (.node (some [(0,.d kLP),(1,.d kLP),(8,.d kI),(9,.box [.d kPP]),(11,.d kI),(16,.d (.sl kI)),(17,.d kI),(18,.d kI),(38,.d .bool)]) none uLf uLf) uLf) uLf)) uLf) uLf))) uLf) uLf)) (uNn uLf (uNn (uNn (.node (some [(9,.box [.d kPP]),(12,.d (.sl (.pair kPP kPP))),(72,.d .bool)]) none uLf uLf) uLf) uLf)))))
def zas (k : Nat) (zM : LPt → Option Bool) (XL : LPt → LPt → (Int × Unit) → Option ((List (PPt × PPt)) × Bool)) (jR : (List (PPt × PPt)) → PPt → Option Int) (a0 : LPt) (a1 : LPt) (a2 : (List Int)) : Option PPt :=
 zA (α := (LPt × (LPt × (Int × (PPt × ((List Int) × PPt)))))) (fun (x1, x2, x3, x4, x5, x6, x7) next0 =>
 bif decide (x7 < x6) then
 gd (inb x7 x5.length) <|
 zz (α := (LPt × (LPt × (Int × (PPt × (Int × ((List Int) × (Int × (Int × Bool))))))))) (fun (y8, y9, y10, y11, y12, y13, y14, y15, y16) =>
 bif y16 then
 some (0, 2)
 else
 gd (inb y12 y8.length) <|
 gd (inb y12 y8.length) <|
 next0 (y8, y9, y10, (w64 (y11.1 + (rdD (0, 0) y8 y12).1), w64 (y11.2 + (rdD (0, 0) y8 y12).2)), y13, y14, w64 (y15 + 1))) fun j17 =>
 bif decide ((rdD 0 x5 x7) < 0) then
 j17 (x1, x2, x3, (x4.1, x4.2), rdD 0 x5 x7, x5, x6, x7, true)
 else
 bif decide ((rdD 0 x5 x7) ≥ (x1.length : Int)) then
 j17 (x1, x2, x3, (x4.1, x4.2), rdD 0 x5 x7, x5, x6, x7, true)
 else
 gd (inb (rdD 0 x5 x7) x1.length) <|
 bnd (zM [((rdD (0, 0) x1 (rdD 0 x5 x7)).1, (rdD (0, 0) x1 (rdD 0 x5 x7)).2)]) fun r18 =>
 j17 (x1, x2, x3, (x4.1, x4.2), rdD 0 x5 x7, x5, x6, x7, !r18)
 else
 bnd (XL x1 x2 (x3, ())) fun r19 =>
 zz (α := (PPt × ((List (PPt × PPt)) × Bool))) (fun (y20, y21, y22) =>
 bif y22 then
 some (0, 2)
 else
 bnd (jR y21 (y20.1, y20.2)) fun r23 =>
 some (r23, 0)) fun j24 =>
 bif !r19.2 then
 j24 ((x4.1, x4.2), r19.1, true)
 else
 bnd (zM [(x4.1, x4.2)]) fun r25 =>
 j24 ((x4.1, x4.2), r19.1, !r25)) k (a0, a1, (a2.length : Int), (0, 0), a2, (a2.length : Int), 0)
theorem ziq (k:Nat) (zM:LPt→Option Bool) (XL:LPt→LPt→(Int×Unit)→Option ((List (PPt×PPt))×Bool)) (jR:(List (PPt×PPt))→PPt→Option Int) (a0:LPt) (a1:LPt) (a2:(List Int)):zP [⟨108,[.d kLP],[.bool],fun x=>zM x,none⟩,⟨132,[.d kLP,.d kLP,.fn 133 [(.d kI)] []],[.sl (.pair kPP kPP),.bool],fun x=>XL (x.1) (x.2.1) (x.2.2),none⟩,⟨134,[.d (.sl (.pair kPP kPP)),.d kPP],[kI],fun x=>jR (x.1) (x.2),none⟩] tb k Tryz.f91 zcP [.d kLP,.d kLP,.d (.sl kI)] [kI,kI] (a0,a1,a2)=zas k zM XL jR a0 a1 a2:=by kernel_rfl
def Zc (k:Nat) (a0:LPt) (a1:LPt) (a2:(List Int)):Option PPt:=zas k (qz k) (KY k) (Z9 k) a0 a1 a2
theorem zaB (k:Nat):zx Tryz.prog 91 [.d kLP,.d kLP,.d (.sl kI)] [kI,kI] (fun x=>Zc k (x.1) (x.2.1) (x.2.2)):=fun x y h=>zk zR mix (zp.cons (ze.of rfl (Ze k)) (zp.cons (ze.of rfl (zhp k)) (zp.cons (ze.of rfl (zby k)) (zp.nil _)))) Tryz.func91 (N:=k) (an:=zcP) (by kernel_rfl) x y ((ziq k (qz k) (KY k) (Z9 k) (x.1) (x.2.1) (x.2.2)).trans h)
def zbV:Ann:=uLf
def XA (k : Nat) (jC : LPt → LPt → (List Int) → Option PPt) (a0 : LPt) (a1 : LPt) (a2 : Int) (a3 : Int) : Option PPt :=
 bnd (jC a0 a1 [a2, a3]) fun r0 =>
 some (r0.1, r0.2)
theorem zhv (k:Nat) (jC:LPt→LPt→(List Int)→Option PPt) (a0:LPt) (a1:LPt) (a2:Int) (a3:Int):zP [⟨91,[.d kLP,.d kLP,.d (.sl kI)],[kI,kI],fun x=>jC (x.1) (x.2.1) (x.2.2),none⟩] tb k Tryz.f86 zbV [.d kLP,.d kLP,.d kI,.d kI] [kI,kI] (a0,a1,a2,a3)=XA k jC a0 a1 a2 a3:=by kernel_rfl
def jG (k:Nat) (a0:LPt) (a1:LPt) (a2:Int) (a3:Int):Option PPt:=XA k (Zc k) a0 a1 a2 a3
theorem zaa (k:Nat):zx Tryz.prog 86 [.d kLP,.d kLP,.d kI,.d kI] [kI,kI] (fun x=>jG k (x.1) (x.2.1) (x.2.2.1) (x.2.2.2)):=fun x y h=>zk zR mix (zp.cons (ze.of rfl (zaB k)) (zp.nil _)) Tryz.func86 (N:=k) (an:=zbV) (by kernel_rfl) x y ((zhv k (Zc k) (x.1) (x.2.1) (x.2.2.1) (x.2.2.2)).trans h)
def zhz:Ann:=uNn uLf (uNn (uNn uLf (uNn (.node none (some [(1,.box [.d kPl]),(2,.box [.d (.pair kI kPP)]),(8,.d kLP),(9,.d kI),(10,.d kI)]) uLf uLf) uLf)) uLf)
def zfy (k : Nat) (jo : LPt → LPt → Int → Int → Option PPt) (a0 : TPl) : Option (Int × PPt) :=
 zA (α := (TPl × ((Int × PPt) × (LPt × PPt)))) (fun (x1, x2, x3, x4, x5) next0 =>
 bif decide (x5 < x4) then
 gd (inb x5 x3.length) <|
 bnd (jo x1.1 x1.2.1 (rdD (0, 0) x3 x5).1 (rdD (0, 0) x3 x5).2) fun r6 =>
 bif !(decide (r6.1 = 1)) then
 some (7, x5, 0)
 else
 next0 ((x1.1, x1.2.1, x1.2.2), (x2.1, x2.2.1, x2.2.2), x3, x4, w64 (x5 + 1))
 else
 some (0, 0, 0)) k ((a0.1, a0.2.1, a0.2.2), (0, 0, 0), a0.2.2, (a0.2.2.length : Int), 0)
theorem zot (k:Nat) (jo:LPt→LPt→Int→Int→Option PPt) (a0:TPl):zP [⟨86,[.d kLP,.d kLP,.d kI,.d kI],[kI,kI],fun x=>jo (x.1) (x.2.1) (x.2.2.1) (x.2.2.2),none⟩] tb k Tryz.f116 zhz [.d kPl] [.pair kI kPP] a0=zfy k jo a0:=by kernel_rfl
def XZ (k:Nat) (a0:TPl):Option (Int×PPt):=zfy k (jG k) a0
theorem zjU (k:Nat):zx Tryz.prog 116 [.d kPl] [.pair kI kPP] (fun x=>XZ k x):=fun x y h=>zk zR mix (zp.cons (ze.of rfl (zaa k)) (zp.nil _)) Tryz.func116 (N:=k) (an:=zhz) (by kernel_rfl) x y ((zot k (jG k) x).trans h)
def zeP:Ann:=uLf
def KX (k : Nat) (a0 : PPt) : Option PPt :=
 some (a0.1, a0.2)
theorem zk2 (k:Nat) (a0:PPt):zP [] tb k Tryz.f173 zeP [.d kPP] [.pair kI kI] a0=KX k a0:=by kernel_rfl
theorem zhY (k:Nat):zx Tryz.prog 173 [.d kPP] [.pair kI kI] (fun x=>KX k x):=fun x y h=>zk zR mix (zp.nil _) Tryz.func173 (N:=k) (an:=zeP) (by kernel_rfl) x y ((zk2 k x).trans h)
def zc6:Ann:=uNn uLf (uNn uLf (uNn (uNn uLf (uNn (.node none (some [(0,.d kLP),(2,.fn 173 [] []),(8,.row (.pair kPP kPP) 177),(13,.d kLP),(14,.d kI),(15,.d kI)]) (uNn uLf (uNn uLf (uNn (uNn (uNn uLf (uNn (uNn (.node (some [(0,.d kLP),(2,.fn 173 [] []),(8,.row (.pair kPP kPP) 177),(10,.box [.d kPP]),(13,.d kLP),(14,.d kI),(15,.d kI),(68,.d .bool)]) none uLf uLf) uLf) uLf)) uLf) uLf))) uLf) uLf)) uLf))
def zao (k : Nat) (zM : LPt → Option Bool) (KQ : PPt → Option PPt) (a0 : LPt) (a1 : LPt) (a2 : (Unit × Unit)) : Option ((List (PPt × PPt)) × Bool) :=
 zA (α := (LPt × ((Unit × Unit) × ((List (PPt × PPt)) × (LPt × PPt))))) (fun (x1, x2, x3, x4, x5, x6) next0 =>
 bif decide (x6 < x5) then
 gd (inb x6 x4.length) <|
 zz (α := (LPt × ((Unit × Unit) × ((List (PPt × PPt)) × (PPt × (LPt × (Int × (Int × Bool)))))))) (fun (y7, y8, y9, y10, y11, y12, y13, y14) =>
 bif y14 then
 some ([], false)
 else
 gd (inb y10.1 y7.length) <|
 bnd (KQ ((rdD (0, 0) y7 y10.1).1, (rdD (0, 0) y7 y10.1).2)) fun r15 =>
 gd (inb y10.2 y7.length) <|
 bnd (KQ ((rdD (0, 0) y7 y10.2).1, (rdD (0, 0) y7 y10.2).2)) fun r16 =>
 bnd (zM [(r15.1, r15.2), (r16.1, r16.2)]) fun r17 =>
 bif !r17 then
 some ([], false)
 else
 gd (few (y9.length + 1)) <|
 next0 (y7, ((), ()), y9 ++ [((r15.1, r15.2), r16.1, r16.2)], y11, y12, w64 (y13 + 1))) fun j18 =>
 bif decide ((rdD (0, 0) x4 x6).1 < 0) then
 j18 (x1, ((), ()), x3, ((rdD (0, 0) x4 x6).1, (rdD (0, 0) x4 x6).2), x4, x5, x6, true)
 else
 bif decide ((rdD (0, 0) x4 x6).1 ≥ (x1.length : Int)) then
 j18 (x1, ((), ()), x3, ((rdD (0, 0) x4 x6).1, (rdD (0, 0) x4 x6).2), x4, x5, x6, true)
 else
 bif decide ((rdD (0, 0) x4 x6).2 < 0) then
 j18 (x1, ((), ()), x3, ((rdD (0, 0) x4 x6).1, (rdD (0, 0) x4 x6).2), x4, x5, x6, true)
 else
 bif decide ((rdD (0, 0) x4 x6).2 ≥ (x1.length : Int)) then
 j18 (x1, ((), ()), x3, ((rdD (0, 0) x4 x6).1, (rdD (0, 0) x4 x6).2), x4, x5, x6, true)
 else
 gd (inb (rdD (0, 0) x4 x6).1 x1.length) <|
 gd (inb (rdD (0, 0) x4 x6).2 x1.length) <|
 bif (decide ((rdD (0, 0) x1 (rdD (0, 0) x4 x6).1).1 = (rdD (0, 0) x1 (rdD (0, 0) x4 x6).2).1)) && (decide ((rdD (0, 0) x1 (rdD (0, 0) x4 x6).1).2 = (rdD (0, 0) x1 (rdD (0, 0) x4 x6).2).2)) then
 j18 (x1, ((), ()), x3, ((rdD (0, 0) x4 x6).1, (rdD (0, 0) x4 x6).2), x4, x5, x6, true)
 else
 gd (inb (rdD (0, 0) x4 x6).1 x1.length) <|
 gd (inb (rdD (0, 0) x4 x6).2 x1.length) <|
 bnd (zM [((rdD (0, 0) x1 (rdD (0, 0) x4 x6).1).1, (rdD (0, 0) x1 (rdD (0, 0) x4 x6).1).2), ((rdD (0, 0) x1 (rdD (0, 0) x4 x6).2).1, (rdD (0, 0) x1 (rdD (0, 0) x4 x6).2).2)]) fun r19 =>
 j18 (x1, ((), ()), x3, ((rdD (0, 0) x4 x6).1, (rdD (0, 0) x4 x6).2), x4, x5, x6, !r19)
 else
 some (x3, true)) k (a0, ((), ()), [], a1, (a1.length : Int), 0)
theorem zi4 (k:Nat) (zM:LPt→Option Bool) (KQ:PPt→Option PPt) (a0:LPt) (a1:LPt) (a2:(Unit×Unit)):zP [⟨108,[.d kLP],[.bool],fun x=>zM x,none⟩,⟨173,[.d kPP],[.pair kI kI],fun x=>KQ x,none⟩] tb k Tryz.f132 zc6 [.d kLP,.d kLP,.fn 173 [] []] [.sl (.pair kPP kPP),.bool] (a0,a1,a2)=zao k zM KQ a0 a1 a2:=by kernel_rfl
def Jw (k:Nat) (a0:LPt) (a1:LPt) (a2:(Unit×Unit)):Option ((List (PPt×PPt))×Bool):=zao k (qz k) (KX k) a0 a1 a2
theorem zgh (k:Nat):zx Tryz.prog 132 [.d kLP,.d kLP,.fn 173 [] []] [.sl (.pair kPP kPP),.bool] (fun x=>Jw k (x.1) (x.2.1) (x.2.2)):=fun x y h=>zk zR mix (zp.cons (ze.of rfl (Ze k)) (zp.cons (ze.of rfl (zhY k)) (zp.nil _))) Tryz.func132 (N:=k) (an:=zc6) (by kernel_rfl) x y ((zi4 k (qz k) (KX k) (x.1) (x.2.1) (x.2.2)).trans h)
def zhx:Ann:=uNn uLf (uNn uLf (uNn (uNn (.node (some [(5,.box [.d kPP]),(8,.d (.sl (.pair kPP kPP))),(23,.d .bool)]) none uLf uLf) uLf) uLf))
def ze8 (k : Nat) (Ya : LPt → LPt → (Unit × Unit) → Option ((List (PPt × PPt)) × Bool)) (zM : LPt → Option Bool) (jR : (List (PPt × PPt)) → PPt → Option Int) (a0 : LPt) (a1 : LPt) (a2 : PPt) : Option PPt :=
 bnd (Ya a0 a1 ((), ())) fun r0 =>
 zz (α := (PPt × ((List (PPt × PPt)) × Bool))) (fun (y1, y2, y3) =>
 bif y3 then
 some (0, 2)
 else
 bnd (jR y2 (y1.1, y1.2)) fun r4 =>
 some (r4, 0)) fun j5 =>
 bif !r0.2 then
 j5 ((a2.1, a2.2), r0.1, true)
 else
 bnd (zM [(a2.1, a2.2)]) fun r6 =>
 j5 ((a2.1, a2.2), r0.1, !r6)
theorem zoc (k:Nat) (Ya:LPt→LPt→(Unit×Unit)→Option ((List (PPt×PPt))×Bool)) (zM:LPt→Option Bool) (jR:(List (PPt×PPt))→PPt→Option Int) (a0:LPt) (a1:LPt) (a2:PPt):zP [⟨132,[.d kLP,.d kLP,.fn 173 [] []],[.sl (.pair kPP kPP),.bool],fun x=>Ya (x.1) (x.2.1) (x.2.2),none⟩,⟨108,[.d kLP],[.bool],fun x=>zM x,none⟩,⟨134,[.d (.sl (.pair kPP kPP)),.d kPP],[kI],fun x=>jR (x.1) (x.2),none⟩] tb k Tryz.f153 zhx [.d kLP,.d kLP,.d kPP] [kI,kI] (a0,a1,a2)=ze8 k Ya zM jR a0 a1 a2:=by kernel_rfl
def Yr (k:Nat) (a0:LPt) (a1:LPt) (a2:PPt):Option PPt:=ze8 k (Jw k) (qz k) (Z9 k) a0 a1 a2
theorem zjY (k:Nat):zx Tryz.prog 153 [.d kLP,.d kLP,.d kPP] [kI,kI] (fun x=>Yr k (x.1) (x.2.1) (x.2.2)):=fun x y h=>zk zR mix (zp.cons (ze.of rfl (zgh k)) (zp.cons (ze.of rfl (Ze k)) (zp.cons (ze.of rfl (zby k)) (zp.nil _)))) Tryz.func153 (N:=k) (an:=zhx) (by kernel_rfl) x y ((zoc k (Jw k) (qz k) (Z9 k) (x.1) (x.2.1) (x.2.2)).trans h)
def zeN:Ann:=uNn uLf (uNn uLf (uNn (uNn uLf (uNn (.node none (some [(1,.box [.d kPl]),(2,.box [.d (.pair kI kPP)]),(18,.d (.sl kI)),(19,.d kI),(20,.d kI)]) (uNn uLf (uNn uLf (uNn (uNn (uNn uLf (uNn uLf (uNn (.node (some [(1,.box [.d kPl]),(2,.box [.d (.pair kI kPP)]),(5,.d kI),(18,.d (.sl kI)),(19,.d kI),(20,.d kI),(43,.d .bool)]) none uLf uLf) uLf))) uLf) uLf))) uLf) uLf)) uLf))
def zco (k : Nat) (qL : TPl → Option LPt) (jD : Int → LPt → Option ((List Int) × Int)) (zbT : LPt → LPt → PPt → Option PPt) (a0 : TPl) : Option (Int × PPt) :=
 bnd (qL (a0.1, a0.2.1, a0.2.2)) fun r0 =>
 bnd (jD (a0.1.length : Int) r0) fun r1 =>
 zA (α := (TPl × ((Int × PPt) × ((List Int) × PPt)))) (fun (x3, x4, x5, x6, x7) next2 =>
 bif decide (x7 < x6) then
 gd (inb x7 x5.length) <|
 gd (inb x7 x3.1.length) <|
 bnd (zbT x3.1 x3.2.1 ((rdD (0, 0) x3.1 x7).1, (rdD (0, 0) x3.1 x7).2)) fun r8 =>
 zz (α := (TPl × ((Int × PPt) × (Int × ((List Int) × (Int × (Int × Bool))))))) (fun (y9, y10, y11, y12, y13, y14, y15) =>
 bif y15 then
 some (8, y11, 0)
 else
 next2 ((y9.1, y9.2.1, y9.2.2), (y10.1, y10.2.1, y10.2.2), y12, y13, w64 (y14 + 1))) fun j16 =>
 bif decide ((rdD 0 x5 x7) = 0) then
 j16 ((x3.1, x3.2.1, x3.2.2), (x4.1, x4.2.1, x4.2.2), x7, x5, x6, x7, !(decide (r8.1 = 1)))
 else
 j16 ((x3.1, x3.2.1, x3.2.2), (x4.1, x4.2.1, x4.2.2), x7, x5, x6, x7, false)
 else
 some (0, 0, 0)) k ((a0.1, a0.2.1, a0.2.2), (0, 0, 0), r1.1, (r1.1.length : Int), 0)
theorem zlv (k:Nat) (qL:TPl→Option LPt) (jD:Int→LPt→Option ((List Int)×Int)) (zbT:LPt→LPt→PPt→Option PPt) (a0:TPl):zP [⟨148,[.d kPl],[.sl kPP],fun x=>qL x,none⟩,⟨152,[.d kI,.d kLP],[.sl kI,kI],fun x=>jD (x.1) (x.2),none⟩,⟨153,[.d kLP,.d kLP,.d kPP],[kI,kI],fun x=>zbT (x.1) (x.2.1) (x.2.2),none⟩] tb k Tryz.f117 zeN [.d kPl] [.pair kI kPP] a0=zco k qL jD zbT a0:=by kernel_rfl
def KW (k:Nat) (a0:TPl):Option (Int×PPt):=zco k (ja k) (Zd k) (Yr k) a0
theorem zh6 (k:Nat):zx Tryz.prog 117 [.d kPl] [.pair kI kPP] (fun x=>KW k x):=fun x y h=>zk zR mix (zp.cons (ze.of rfl (K7 k)) (zp.cons (ze.of rfl (zau k)) (zp.cons (ze.of rfl (zjY k)) (zp.nil _)))) Tryz.func117 (N:=k) (an:=zeN) (by kernel_rfl) x y ((zlv k (ja k) (Zd k) (Yr k) x).trans h)
def zfh:Ann:=uNn uLf (uNn uLf (uNn (uNn uLf (uNn (.node none (some [(1,.box [.d kPl]),(2,.box [.d (.pair kI kPP)]),(14,.con [111,112,113,114,115,116,117]),(15,.d kI)]) (uNn uLf (uNn uLf (uNn (uNn (uNn uLf (uNn (.node (some [(1,.box [.d kPl]),(2,.box [.d (.pair kI kPP)]),(7,.box [.d (.pair kI kPP)]),(14,.con [111,112,113,114,115,116,117]),(15,.d kI)]) none uLf uLf) uLf)) uLf) uLf))) uLf) uLf)) uLf))
def zck (k : Nat) (XE : TPl → Option Int) (XN : TPl → Option (Int × PPt)) (XQ : TPl → Option (Int × PPt)) (XH : TPl → Option (Int × PPt)) (Yz : TPl → Option (Int × PPt)) (zaJ : TPl → Option (Int × PPt)) (zbS : TPl → Option (Int × PPt)) (XO : TPl → Option (Int × PPt)) (a0 : TPl) : Option ((Int × PPt) × Int) :=
 bnd (XE (a0.1, a0.2.1, a0.2.2)) fun r0 =>
 bif !(decide (r0 = 0)) then
 some ((0, 0, 0), r0)
 else
 zA (α := (TPl × ((Int × PPt) × (Unit × Int)))) (fun (x2, x3, x4, x5) next1 =>
 bif decide (x5 < 7) then
 bif decide (x5 = 0) then
 zz (α := (TPl × ((Int × PPt) × ((Int × PPt) × (Unit × Int))))) (fun (y6, y7, y8, y9, y10) =>
 bif !(decide (y8.1 = 0)) then
 some ((y8.1, y8.2.1, y8.2.2), 0)
 else
 next1 ((y6.1, y6.2.1, y6.2.2), (y7.1, y7.2.1, y7.2.2), (), w64 (y10 + 1))) fun j11 =>
 bnd (XN (x2.1, x2.2.1, x2.2.2)) fun r12 =>
 j11 ((x2.1, x2.2.1, x2.2.2), (x3.1, x3.2.1, x3.2.2), (r12.1, r12.2.1, r12.2.2), (), x5)
 else
 bif decide (x5 = 1) then
 zz (α := (TPl × ((Int × PPt) × ((Int × PPt) × (Unit × Int))))) (fun (y13, y14, y15, y16, y17) =>
 bif !(decide (y15.1 = 0)) then
 some ((y15.1, y15.2.1, y15.2.2), 0)
 else
 next1 ((y13.1, y13.2.1, y13.2.2), (y14.1, y14.2.1, y14.2.2), (), w64 (y17 + 1))) fun j18 =>
 bnd (XQ (x2.1, x2.2.1, x2.2.2)) fun r19 =>
 j18 ((x2.1, x2.2.1, x2.2.2), (x3.1, x3.2.1, x3.2.2), (r19.1, r19.2.1, r19.2.2), (), x5)
 else
 bif decide (x5 = 2) then
 zz (α := (TPl × ((Int × PPt) × ((Int × PPt) × (Unit × Int))))) (fun (y20, y21, y22, y23, y24) =>
 bif !(decide (y22.1 = 0)) then
 some ((y22.1, y22.2.1, y22.2.2), 0)
 else
 next1 ((y20.1, y20.2.1, y20.2.2), (y21.1, y21.2.1, y21.2.2), (), w64 (y24 + 1))) fun j25 =>
 bnd (XH (x2.1, x2.2.1, x2.2.2)) fun r26 =>
 j25 ((x2.1, x2.2.1, x2.2.2), (x3.1, x3.2.1, x3.2.2), (r26.1, r26.2.1, r26.2.2), (), x5)
 else
 bif decide (x5 = 3) then
 zz (α := (TPl × ((Int × PPt) × ((Int × PPt) × (Unit × Int))))) (fun (y27, y28, y29, y30, y31) =>
 bif !(decide (y29.1 = 0)) then
 some ((y29.1, y29.2.1, y29.2.2), 0)
 else
 next1 ((y27.1, y27.2.1, y27.2.2), (y28.1, y28.2.1, y28.2.2), (), w64 (y31 + 1))) fun j32 =>
 bnd (Yz (x2.1, x2.2.1, x2.2.2)) fun r33 =>
 j32 ((x2.1, x2.2.1, x2.2.2), (x3.1, x3.2.1, x3.2.2), (r33.1, r33.2.1, r33.2.2), (), x5)
 else
 bif decide (x5 = 4) then
 zz (α := (TPl × ((Int × PPt) × ((Int × PPt) × (Unit × Int))))) (fun (y34, y35, y36, y37, y38) =>
 bif !(decide (y36.1 = 0)) then
 some ((y36.1, y36.2.1, y36.2.2), 0)
 else
 next1 ((y34.1, y34.2.1, y34.2.2), (y35.1, y35.2.1, y35.2.2), (), w64 (y38 + 1))) fun j39 =>
 bnd (zaJ (x2.1, x2.2.1, x2.2.2)) fun r40 =>
 j39 ((x2.1, x2.2.1, x2.2.2), (x3.1, x3.2.1, x3.2.2), (r40.1, r40.2.1, r40.2.2), (), x5)
 else
 bif decide (x5 = 5) then
 zz (α := (TPl × ((Int × PPt) × ((Int × PPt) × (Unit × Int))))) (fun (y41, y42, y43, y44, y45) =>
 bif !(decide (y43.1 = 0)) then
 some ((y43.1, y43.2.1, y43.2.2), 0)
 else
 next1 ((y41.1, y41.2.1, y41.2.2), (y42.1, y42.2.1, y42.2.2), (), w64 (y45 + 1))) fun j46 =>
 bnd (zbS (x2.1, x2.2.1, x2.2.2)) fun r47 =>
 j46 ((x2.1, x2.2.1, x2.2.2), (x3.1, x3.2.1, x3.2.2), (r47.1, r47.2.1, r47.2.2), (), x5)
 else
 bif decide (x5 = 6) then
 zz (α := (TPl × ((Int × PPt) × ((Int × PPt) × (Unit × Int))))) (fun (y48, y49, y50, y51, y52) =>
 bif !(decide (y50.1 = 0)) then
 some ((y50.1, y50.2.1, y50.2.2), 0)
 else
 next1 ((y48.1, y48.2.1, y48.2.2), (y49.1, y49.2.1, y49.2.2), (), w64 (y52 + 1))) fun j53 =>
 bnd (XO (x2.1, x2.2.1, x2.2.2)) fun r54 =>
 j53 ((x2.1, x2.2.1, x2.2.2), (x3.1, x3.2.1, x3.2.2), (r54.1, r54.2.1, r54.2.2), (), x5)
 else
 none
 else
 some ((0, 0, 0), 0)) k ((a0.1, a0.2.1, a0.2.2), (0, 0, 0), (), 0)
theorem zkW (k:Nat) (XE:TPl→Option Int) (XN:TPl→Option (Int×PPt)) (XQ:TPl→Option (Int×PPt)) (XH:TPl→Option (Int×PPt)) (Yz:TPl→Option (Int×PPt)) (zaJ:TPl→Option (Int×PPt)) (zbS:TPl→Option (Int×PPt)) (XO:TPl→Option (Int×PPt)) (a0:TPl):zP [⟨110,[.d kPl],[kI],fun x=>XE x,none⟩,⟨111,[.d kPl],[.pair kI kPP],fun x=>XN x,none⟩,⟨112,[.d kPl],[.pair kI kPP],fun x=>XQ x,none⟩,⟨113,[.d kPl],[.pair kI kPP],fun x=>XH x,none⟩,⟨114,[.d kPl],[.pair kI kPP],fun x=>Yz x,none⟩,⟨115,[.d kPl],[.pair kI kPP],fun x=>zaJ x,none⟩,⟨116,[.d kPl],[.pair kI kPP],fun x=>zbS x,none⟩,⟨117,[.d kPl],[.pair kI kPP],fun x=>XO x,none⟩] tb k Tryz.f82 zfh [.d kPl] [.pair kI kPP,kI] a0=zck k XE XN XQ XH Yz zaJ zbS XO a0:=by kernel_rfl
def JB (k:Nat) (a0:TPl):Option ((Int×PPt)×Int):=zck k (JE k) (KT k) (KJ k) (KU k) (J0 k) (YG k) (XZ k) (KW k) a0
theorem zhM (k:Nat):zx Tryz.prog 82 [.d kPl] [.pair kI kPP,kI] (fun x=>JB k x):=fun x y h=>zk zR mix (zp.cons (ze.of rfl (zhV k)) (zp.cons (ze.of rfl (zio k)) (zp.cons (ze.of rfl (zip k)) (zp.cons (ze.of rfl (zh1 k)) (zp.cons (ze.of rfl (zhb k)) (zp.cons (ze.of rfl (zjc k)) (zp.cons (ze.of rfl (zjU k)) (zp.cons (ze.of rfl (zh6 k)) (zp.nil _))))))))) Tryz.func82 (N:=k) (an:=zfh) (by kernel_rfl) x y ((zkW k (JE k) (KT k) (KJ k) (KU k) (J0 k) (YG k) (XZ k) (KW k) x).trans h)
def zgv:Ann:=uNn uLf (uNn uLf (uNn (.node (some [(2,.d .bool)]) none uLf uLf) uLf))
def zdU (k : Nat) (XI : TPl → Option ((Int × PPt) × Int)) (a0 : TPl) : Option Bool :=
 bnd (XI (a0.1, a0.2.1, a0.2.2)) fun r0 =>
 zz (α := Bool) (fun y1 =>
 some y1) fun j2 =>
 bif decide (r0.2 = 0) then
 j2 (decide (r0.1.1 = 0))
 else
 j2 false
theorem zml (k:Nat) (XI:TPl→Option ((Int×PPt)×Int)) (a0:TPl):zP [⟨82,[.d kPl],[.pair kI kPP,kI],fun x=>XI x,none⟩] tb k Tryz.f45 zgv [.d kPl] [.bool] a0=zdU k XI a0:=by kernel_rfl
def Kj (k:Nat) (a0:TPl):Option Bool:=zdU k (JB k) a0
theorem ziR (k:Nat):zx Tryz.prog 45 [.d kPl] [.bool] (fun x=>Kj k x):=fun x y h=>zk zR mix (zp.cons (ze.of rfl (zhM k)) (zp.nil _)) Tryz.func45 (N:=k) (an:=zgv) (by kernel_rfl) x y ((zml k (JB k) x).trans h)
def zkt:Ann:=uNn uLf (uNn uLf (uNn (uNn uLf (uNn (.node none (some [(0,.d (.sl kLP)),(3,.d kI),(9,.d (.sl kLP)),(10,.d kI),(11,.d kI)]) (uNn uLf (uNn uLf (uNn (uNn (uNn uLf (uNn uLf (uNn uLf (.node (some [(0,.d (.sl kLP)),(3,.d kI),(9,.d (.sl kLP)),(10,.d kI),(11,.d kI)]) none uLf uLf)))) uLf) uLf))) uLf) uLf)) (uNn uLf (uNn (uNn uLf (uNn (.node none (some [(6,.row kPP 60),(25,.d (.sl kLP)),(26,.d kI),(27,.d kI)]) uLf uLf) uLf)) uLf))))
def Xv (k : Nat) (a0 : (List LPt)) : Option LPt :=
 zA (α := ((List LPt) × (Int × ((List LPt) × PPt)))) (fun (x1, x2, x3, x4, x5) next0 =>
 bif decide (x5 < x4) then
 gd (inb x5 x3.length) <|
 zz (α := ((List LPt) × (Int × ((List LPt) × PPt)))) (fun (y6, y7, y8, y9, y10) =>
 next0 (y6, y7, y8, y9, w64 (y10 + 1))) fun j11 =>
 bif decide ((w64 (x2 + ((rdD [] x3 x5).length : Int))) < 0) then
 none
 else
 j11 (x1, w64 (x2 + ((rdD [] x3 x5).length : Int)), x3, x4, x5)
 else
 gd (decide (0 ≤ x2)) <|
 gd (zgc x2) <|
 zA (α := (LPt × ((List LPt) × PPt))) (fun (x13, x14, x15, x16) next12 =>
 bif decide (x16 < x15) then
 gd (inb x16 x14.length) <|
 gd (few (x13.length + (rdD [] x14 x16).length)) <|
 next12 (x13 ++ (rdD [] x14 x16), x14, x15, w64 (x16 + 1))
 else
 some x13) k ([], x1, (x1.length : Int), 0)) k (a0, 0, a0, (a0.length : Int), 0)
theorem zqW (k:Nat) (a0:(List LPt)):zP [⟨118,[],[],fun _=>none,some (.grw kPP 60)⟩] tb k Tryz.f83 zkt [.d (.sl kLP)] [.sl kPP] a0=Xv k a0:=by kernel_rfl
theorem zgK (k:Nat):zx Tryz.prog 83 [.d (.sl kLP)] [.sl kPP] (fun x=>Xv k x):=fun x y h=>zk zR mix (zp.cons (ze.grow zsz) (zp.nil _)) Tryz.func83 (N:=k) (an:=zkt) (by kernel_rfl) x y ((zqW k x).trans h)
def zkN:Ann:=uLf
def JA (k : Nat) (a0 : PPt) : Option PPt :=
 some (mnI a0.1 a0.2, mxI a0.1 a0.2)
theorem zqd (k:Nat) (a0:PPt):zP [] tb k Tryz.f61 zkN [.d kPP] [.pair kI kI] a0=JA k a0:=by kernel_rfl
theorem zb3 (k:Nat):zx Tryz.prog 61 [.d kPP] [.pair kI kI] (fun x=>JA k x):=fun x y h=>zk zR mix (zp.nil _) Tryz.func61 (N:=k) (an:=zkN) (by kernel_rfl) x y ((zqd k x).trans h)
def zaK:Ann:=uNn uLf (uNn uLf (uNn (uNn uLf (uNn (.node none (some [(3,.row kPP 60),(11,.d kLP),(12,.d kI),(13,.d kI)]) uLf uLf) uLf)) uLf))
def zbO (k : Nat) (Xn : (List LPt) → Option LPt) (Qo : PPt → Option PPt) (a0 : TPl) : Option LPt :=
 bnd (Xn [a0.2.1, a0.2.2]) fun r0 =>
 zA (α := (LPt × (LPt × PPt))) (fun (x2, x3, x4, x5) next1 =>
 bif decide (x5 < x4) then
 gd (inb x5 x3.length) <|
 bnd (Qo ((rdD (0, 0) x3 x5).1, (rdD (0, 0) x3 x5).2)) fun r6 =>
 gd (few (x2.length + 1)) <|
 next1 (x2 ++ [(r6.1, r6.2)], x3, x4, w64 (x5 + 1))
 else
 gd (few x2.length) <|
 some (Xw J8 x2)) k ([], r0, (r0.length : Int), 0)
theorem zn1 (k:Nat) (Xn:(List LPt)→Option LPt) (Qo:PPt→Option PPt) (a0:TPl):zsm [⟨48,[],[],fun _=>none,some (.srt kPP 49 J8)⟩,⟨83,[.d (.sl kLP)],[.sl kPP],fun x=>Xn x,none⟩,⟨61,[.d kPP],[.pair kI kI],fun x=>Qo x,none⟩] tb k Tryz.f46 zaK [.d kPl] kPP 60 a0=zbO k Xn Qo a0:=by kernel_rfl
def ZZ (k:Nat) (a0:TPl):Option LPt:=zbO k (Xv k) (JA k) a0
theorem zjL (k:Nat):zha Tryz.prog 46 [.d kPl] kPP 60 (fun x=>ZZ k x):=⟨rfl,rfl,fun x y h=>(zlx zR mix (zp.cons (ze.sort zqv) (zp.cons (ze.of rfl (zgK k)) (zp.cons (ze.of rfl (zb3 k)) (zp.nil _)))) Tryz.func46 (N:=k) (an:=zaK) rfl rfl (by kernel_rfl)).2.2 x y ((zn1 k (Xv k) (JA k) x).trans h)⟩
theorem zmk (k:Nat) (Xn:(List LPt)→Option LPt) (Qo:PPt→Option PPt) (a0:TPl):zP [⟨48,[],[],fun _=>none,some (.srt kPP 49 J8)⟩,⟨83,[.d (.sl kLP)],[.sl kPP],fun x=>Xn x,none⟩,⟨61,[.d kPP],[.pair kI kI],fun x=>Qo x,none⟩] tb k Tryz.f46 zaK [.d kPl] [.sl kPP] a0=zbO k Xn Qo a0:=by kernel_rfl
theorem zid (k:Nat):zx Tryz.prog 46 [.d kPl] [.sl kPP] (fun x=>ZZ k x):=fun x y h=>zk zR mix (zp.cons (ze.sort zqv) (zp.cons (ze.of rfl (zgK k)) (zp.cons (ze.of rfl (zb3 k)) (zp.nil _)))) Tryz.func46 (N:=k) (an:=zaK) (by kernel_rfl) x y ((zmk k (Xv k) (JA k) x).trans h)
def zia:Ann:=uNn uLf (uNn (uNn uLf (uNn (.node none (some [(1,.d kLP),(2,.d kI),(3,.d kI),(4,.box [.d kPl]),(18,.d kLP),(19,.d kI),(20,.d kI)]) uLf uLf) uLf)) (uNn (uNn uLf (uNn (.node none (some [(2,.d kI),(3,.d kI),(4,.box [.d kPl]),(37,.d kLP),(38,.d kI),(39,.d kI)]) uLf uLf) uLf)) uLf))
def zfH (k : Nat) (qD : PPt → PPt → PPt → Option Bool) (QM : PPt → PPt → PPt → PPt → Option PPt) (jo : LPt → LPt → Int → Int → Option PPt) (a0 : TPl) (a1 : LPt) (a2 : Int) (a3 : Int) : Option Bool :=
 zA (α := (LPt × (Int × (Int × (TPl × (LPt × PPt)))))) (fun (x1, x2, x3, x4, x5, x6, x7) next0 =>
 bif decide (x7 < x6) then
 gd (inb x7 x5.length) <|
 gd (inb x2 x4.1.length) <|
 gd (inb x3 x4.1.length) <|
 bnd (qD ((rdD (0, 0) x4.1 x2).1, (rdD (0, 0) x4.1 x2).2) ((rdD (0, 0) x4.1 x3).1, (rdD (0, 0) x4.1 x3).2) ((rdD (0, 0) x5 x7).1, (rdD (0, 0) x5 x7).2)) fun r8 =>
 bif r8 then
 some false
 else
 next0 (x1, x2, x3, (x4.1, x4.2.1, x4.2.2), x5, x6, w64 (x7 + 1))
 else
 zA (α := (Int × (Int × (TPl × (LPt × PPt))))) (fun (x10, x11, x12, x13, x14, x15) next9 =>
 bif decide (x15 < x14) then
 gd (inb x15 x13.length) <|
 gd (inb x10 x12.1.length) <|
 gd (inb x11 x12.1.length) <|
 gd (inb (rdD (0, 0) x13 x15).1 x12.1.length) <|
 gd (inb (rdD (0, 0) x13 x15).2 x12.1.length) <|
 bnd (QM ((rdD (0, 0) x12.1 x10).1, (rdD (0, 0) x12.1 x10).2) ((rdD (0, 0) x12.1 x11).1, (rdD (0, 0) x12.1 x11).2) ((rdD (0, 0) x12.1 (rdD (0, 0) x13 x15).1).1, (rdD (0, 0) x12.1 (rdD (0, 0) x13 x15).1).2) ((rdD (0, 0) x12.1 (rdD (0, 0) x13 x15).2).1, (rdD (0, 0) x12.1 (rdD (0, 0) x13 x15).2).2)) fun r16 =>
 bif decide (r16.1 > 1) then
 some false
 else
 next9 (x10, x11, (x12.1, x12.2.1, x12.2.2), x13, x14, w64 (x15 + 1))
 else
 bnd (jo x12.1 x12.2.1 x10 x11) fun r17 =>
 some (decide (r17.1 = 1))) k (x2, x3, (x4.1, x4.2.1, x4.2.2), x1, (x1.length : Int), 0)) k (a1, a2, a3, (a0.1, a0.2.1, a0.2.2), a0.1, (a0.1.length : Int), 0)
theorem zn9 (k:Nat) (qD:PPt→PPt→PPt→Option Bool) (QM:PPt→PPt→PPt→PPt→Option PPt) (jo:LPt→LPt→Int→Int→Option PPt) (a0:TPl) (a1:LPt) (a2:Int) (a3:Int):zP [⟨84,[.d kPP,.d kPP,.d kPP],[.bool],fun x=>qD (x.1) (x.2.1) (x.2.2),none⟩,⟨85,[.d kPP,.d kPP,.d kPP,.d kPP],[kI,kI],fun x=>QM (x.1) (x.2.1) (x.2.2.1) (x.2.2.2),none⟩,⟨86,[.d kLP,.d kLP,.d kI,.d kI],[kI,kI],fun x=>jo (x.1) (x.2.1) (x.2.2.1) (x.2.2.2),none⟩] tb k Tryz.f47 zia [.d kPl,.d kLP,.d kI,.d kI] [.bool] (a0,a1,a2,a3)=zfH k qD QM jo a0 a1 a2 a3:=by kernel_rfl
def Yv (k:Nat) (a0:TPl) (a1:LPt) (a2:Int) (a3:Int):Option Bool:=zfH k (jA k) (QE k) (jG k) a0 a1 a2 a3
theorem zjN (k:Nat):zx Tryz.prog 47 [.d kPl,.d kLP,.d kI,.d kI] [.bool] (fun x=>Yv k (x.1) (x.2.1) (x.2.2.1) (x.2.2.2)):=fun x y h=>zk zR mix (zp.cons (ze.of rfl (YM k)) (zp.cons (ze.of rfl (zec k)) (zp.cons (ze.of rfl (zaa k)) (zp.nil _)))) Tryz.func47 (N:=k) (an:=zia) (by kernel_rfl) x y ((zn9 k (jA k) (QE k) (jG k) (x.1) (x.2.1) (x.2.2.1) (x.2.2.2)).trans h)
def zgs:Ann:=uNn uLf (uNn uLf (uNn uLf (uNn (uNn uLf (uNn (.node none (some [(1,.box [.d kPl]),(4,.row kPP 60),(14,.d kI),(15,.d kI)]) (uNn uLf (uNn uLf (uNn (uNn (uNn uLf (uNn uLf (uNn (.node none (some [(1,.box [.d kPl]),(4,.row kPP 60),(5,.d kI),(6,.d kI),(14,.d kI),(15,.d kI)]) (uNn uLf (uNn (uNn (uNn uLf (.node (some [(1,.box [.d kPl]),(4,.row kPP 60),(5,.d kI),(6,.d kI),(14,.d kI),(15,.d kI)]) none uLf uLf)) uLf) uLf)) uLf) uLf))) uLf) uLf))) uLf) uLf)) uLf)))
def zdv (k : Nat) (zaN : TPl → Option Bool) (Qu : TPl → Option LPt) (zbW : TPl → LPt → Int → Int → Option Bool) (a0 : TPl) : Option (LPt × Int) :=
 bnd (zaN (a0.1, a0.2.1, a0.2.2)) fun r0 =>
 bif !r0 then
 some ([], 2)
 else
 bnd (Qu (a0.1, a0.2.1, a0.2.2)) fun r1 =>
 zA (α := (TPl × (LPt × PPt))) (fun (x3, x4, x5, x6) next2 =>
 bif decide (x6 < x5) then
 zA (α := (TPl × (LPt × (Int × (Int × PPt))))) (fun (x8, x9, x10, x11, x12, x13) next7 =>
 bif decide (x11 < (x8.1.length : Int)) then
 bnd (zbW (x8.1, x8.2.1, x8.2.2) x9 x10 x11) fun r14 =>
 zz (α := (TPl × (LPt × (Int × (Int × PPt))))) (fun (y15, y16, y17, y18, y19, y20) =>
 next7 ((y15.1, y15.2.1, y15.2.2), y16, y17, w64 (y18 + 1), y19, y20)) fun j21 =>
 bif r14 then
 gd (few (x9.length + 1)) <|
 j21 ((x8.1, x8.2.1, x8.2.2), x9 ++ [(x10, x11)], x10, x11, x12, x13)
 else
 j21 ((x8.1, x8.2.1, x8.2.2), x9, x10, x11, x12, x13)
 else
 next2 ((x8.1, x8.2.1, x8.2.2), x9, x12, w64 (x13 + 1))) k ((x3.1, x3.2.1, x3.2.2), x4, x6, w64 (x6 + 1), x5, x6)
 else
 gd (few x4.length) <|
 some (Xw J8 x4, 0)) k ((a0.1, a0.2.1, a0.2.2), r1, (a0.1.length : Int), 0)
theorem zmf (k:Nat) (zaN:TPl→Option Bool) (Qu:TPl→Option LPt) (zbW:TPl→LPt→Int→Int→Option Bool) (a0:TPl):zP [⟨48,[],[],fun _=>none,some (.srt kPP 49 J8)⟩,⟨45,[.d kPl],[.bool],fun x=>zaN x,none⟩,⟨46,[],[],fun _=>none,some (.own [.d kPl] kPP 60 fun x=>Qu x)⟩,⟨47,[.d kPl,.d kLP,.d kI,.d kI],[.bool],fun x=>zbW (x.1) (x.2.1) (x.2.2.1) (x.2.2.2),none⟩] tb k Tryz.f13 zgs [.d kPl] [.sl kPP,kI] a0=zdv k zaN Qu zbW a0:=by kernel_rfl
def ZJ (k:Nat) (a0:TPl):Option (LPt×Int):=zdv k (Kj k) (ZZ k) (Yv k) a0
theorem zcS (k:Nat):zx Tryz.prog 13 [.d kPl] [.sl kPP,kI] (fun x=>ZJ k x):=fun x y h=>zk zR mix (zp.cons (ze.sort zqv) (zp.cons (ze.of rfl (ziR k)) (zp.cons (ze.own (zjL k)) (zp.cons (ze.of rfl (zjN k)) (zp.nil _))))) Tryz.func13 (N:=k) (an:=zgs) (by kernel_rfl) x y ((zmf k (Kj k) (ZZ k) (Yv k) x).trans h)
def zjv:Ann:=uNn uLf (uNn (uNn uLf (uNn (.node none (some [(0,.d kLP),(1,.d kI),(2,.d kI),(3,.d kI),(8,.box [.d (.pair kI kPP)]),(15,.d (.pair kI kPP)),(16,.d kI)]) (uNn uLf (uNn uLf (uNn (uNn (uNn (.node (some [(0,.d kLP),(1,.d kI),(2,.d kI),(3,.d kI),(8,.box [.d (.pair kI kPP)]),(11,.d kI),(15,.d (.pair kI kPP)),(16,.d kI)]) none uLf uLf) (uNn (.node (some [(0,.d kLP),(1,.d kI),(2,.d kI),(3,.d kI),(8,.box [.d (.pair kI kPP)]),(15,.d (.pair kI kPP)),(16,.d kI),(26,.d .bool)]) none uLf uLf) uLf)) uLf) uLf))) uLf) uLf)) (uNn (uNn uLf (uNn (uNn uLf (uNn uLf (uNn uLf (.node (some [(1,.d kI),(2,.d kI),(3,.d kI),(8,.box [.d (.pair kI kPP)])]) none uLf uLf)))) uLf)) (uNn (uNn (.node none (some [(1,.d kI),(2,.d kI),(3,.d kI),(8,.box [.d (.pair kI kPP)])]) (uNn (uNn (.node (some [(1,.d kI),(2,.d kI),(3,.d kI),(8,.box [.d (.pair kI kPP)]),(56,.d .bool)]) none uLf uLf) uLf) uLf) uLf) uLf) uLf)))
def zgO (k : Nat) (zX : PPt → PPt → PPt → Option Int) (a0 : LPt) (a1 : Int) (a2 : Int) (a3 : Int) : Option ((Int × PPt) × Bool) :=
 zA (α := (LPt × (Int × (Int × (Int × ((Int × PPt) × ((Int × PPt) × Int))))))) (fun (x1, x2, x3, x4, x5, x6, x7) next0 =>
 bif decide (x7 < 3) then
 zz (α := (LPt × (Int × (Int × (Int × ((Int × PPt) × (Int × ((Int × PPt) × Int)))))))) (fun (y8, y9, y10, y11, y12, y13, y14, y15) =>
 zz (α := (LPt × (Int × (Int × (Int × ((Int × PPt) × ((Int × PPt) × (Int × Bool)))))))) (fun (y16, y17, y18, y19, y20, y21, y22, y23) =>
 bif y23 then
 some ((0, 0, 0), false)
 else
 next0 (y16, y17, y18, y19, (y20.1, y20.2.1, y20.2.2), (y21.1, y21.2.1, y21.2.2), w64 (y22 + 1))) fun j24 =>
 bif decide (y13 < 0) then
 j24 (y8, y9, y10, y11, (y12.1, y12.2.1, y12.2.2), (y14.1, y14.2.1, y14.2.2), y15, true)
 else
 j24 (y8, y9, y10, y11, (y12.1, y12.2.1, y12.2.2), (y14.1, y14.2.1, y14.2.2), y15, decide (y13 ≥ (y8.length : Int)))) fun j25 =>
 bif decide (x7 = 0) then
 j25 (x1, x2, x3, x4, (x5.1, x5.2.1, x5.2.2), x6.1, (x6.1, x6.2.1, x6.2.2), x7)
 else
 bif decide (x7 = 1) then
 j25 (x1, x2, x3, x4, (x5.1, x5.2.1, x5.2.2), x6.2.1, (x6.1, x6.2.1, x6.2.2), x7)
 else
 bif decide (x7 = 2) then
 j25 (x1, x2, x3, x4, (x5.1, x5.2.1, x5.2.2), x6.2.2, (x6.1, x6.2.1, x6.2.2), x7)
 else
 none
 else
 gd (inb x2 x1.length) <|
 gd (inb x3 x1.length) <|
 gd (inb x4 x1.length) <|
 bnd (zX ((rdD (0, 0) x1 x2).1, (rdD (0, 0) x1 x2).2) ((rdD (0, 0) x1 x3).1, (rdD (0, 0) x1 x3).2) ((rdD (0, 0) x1 x4).1, (rdD (0, 0) x1 x4).2)) fun r26 =>
 bif decide (r26 = 0) then
 some ((0, 0, 0), false)
 else
 zz (α := (Int × (Int × (Int × (Int × PPt))))) (fun (y27, y28, y29, y30, y31, y32) =>
 zA (α := (Int × (Int × (Int × (Int × PPt))))) (fun (x34, x35, x36, x37, x38, x39) next33 =>
 zz (α := (Int × (Int × (Int × ((Int × PPt) × Bool))))) (fun (y40, y41, y42, y43, y44) =>
 bif y44 then
 next33 (y41, y42, y40, y43.1, y43.2.1, y43.2.2)
 else
 some ((y40, y41, y42), true)) fun j45 =>
 bif decide (x34 > x35) then
 j45 (x34, x35, x36, (x37, x38, x39), true)
 else
 j45 (x34, x35, x36, (x37, x38, x39), decide (x34 > x36))) k (y27, y28, y29, y30, y31, y32)) fun j46 =>
 bif decide (r26 = (-1)) then
 j46 (x2, x4, x3, x5.1, x5.2.1, x5.2.2)
 else
 j46 (x2, x3, x4, x5.1, x5.2.1, x5.2.2)) k (a0, a1, a2, a3, (0, 0, 0), (a1, a2, a3), 0)
theorem zpE (k:Nat) (zX:PPt→PPt→PPt→Option Int) (a0:LPt) (a1:Int) (a2:Int) (a3:Int):zP [⟨81,[.d kPP,.d kPP,.d kPP],[kI],fun x=>zX (x.1) (x.2.1) (x.2.2),none⟩] tb k Tryz.f40 zjv [.d kLP,.d kI,.d kI,.d kI] [.pair kI kPP,.bool] (a0,a1,a2,a3)=zgO k zX a0 a1 a2 a3:=by kernel_rfl
def Z3 (k:Nat) (a0:LPt) (a1:Int) (a2:Int) (a3:Int):Option ((Int×PPt)×Bool):=zgO k (qQ k) a0 a1 a2 a3
theorem zfc (k:Nat):zx Tryz.prog 40 [.d kLP,.d kI,.d kI,.d kI] [.pair kI kPP,.bool] (fun x=>Z3 k (x.1) (x.2.1) (x.2.2.1) (x.2.2.2)):=fun x y h=>zk zR mix (zp.cons (ze.of rfl (Qq k)) (zp.nil _)) Tryz.func40 (N:=k) (an:=zjv) (by kernel_rfl) x y ((zpE k (qQ k) (x.1) (x.2.1) (x.2.2.1) (x.2.2.2)).trans h)
def zd8:Ann:=uLf
def zbn (k : Nat) (jC : LPt → LPt → (List Int) → Option PPt) (a0 : LPt) (a1 : LPt) (a2 : Int) (a3 : Int) (a4 : Int) : Option PPt :=
 bnd (jC a0 a1 [a2, a3, a4]) fun r0 =>
 some (r0.1, r0.2)
theorem zjR (k:Nat) (jC:LPt→LPt→(List Int)→Option PPt) (a0:LPt) (a1:LPt) (a2:Int) (a3:Int) (a4:Int):zP [⟨91,[.d kLP,.d kLP,.d (.sl kI)],[kI,kI],fun x=>jC (x.1) (x.2.1) (x.2.2),none⟩] tb k Tryz.f54 zd8 [.d kLP,.d kLP,.d kI,.d kI,.d kI] [kI,kI] (a0,a1,a2,a3,a4)=zbn k jC a0 a1 a2 a3 a4:=by kernel_rfl
def Zt (k:Nat) (a0:LPt) (a1:LPt) (a2:Int) (a3:Int) (a4:Int):Option PPt:=zbn k (Zc k) a0 a1 a2 a3 a4
theorem zhk (k:Nat):zx Tryz.prog 54 [.d kLP,.d kLP,.d kI,.d kI,.d kI] [kI,kI] (fun x=>Zt k (x.1) (x.2.1) (x.2.2.1) (x.2.2.2.1) (x.2.2.2.2)):=fun x y h=>zk zR mix (zp.cons (ze.of rfl (zaB k)) (zp.nil _)) Tryz.func54 (N:=k) (an:=zd8) (by kernel_rfl) x y ((zjR k (Zc k) (x.1) (x.2.1) (x.2.2.1) (x.2.2.2.1) (x.2.2.2.2)).trans h)
def zky:Ann:=uNn uLf (uNn (.node (some [(6,.d .bool)]) none uLf uLf) uLf)
def zi1 (k : Nat) (zX : PPt → PPt → PPt → Option Int) (a0 : LPt) (a1 : (Int × PPt)) (a2 : PPt) : Option Bool :=
 zz (α := Bool) (fun y0 =>
 some y0) fun j1 =>
 gd (inb a1.1 a0.length) <|
 gd (inb a1.2.1 a0.length) <|
 bnd (zX ((rdD (0, 0) a0 a1.1).1, (rdD (0, 0) a0 a1.1).2) ((rdD (0, 0) a0 a1.2.1).1, (rdD (0, 0) a0 a1.2.1).2) (a2.1, a2.2)) fun r2 =>
 bif decide (r2 ≥ 0) then
 gd (inb a1.2.1 a0.length) <|
 gd (inb a1.2.2 a0.length) <|
 bnd (zX ((rdD (0, 0) a0 a1.2.1).1, (rdD (0, 0) a0 a1.2.1).2) ((rdD (0, 0) a0 a1.2.2).1, (rdD (0, 0) a0 a1.2.2).2) (a2.1, a2.2)) fun r3 =>
 bif decide (r3 ≥ 0) then
 gd (inb a1.2.2 a0.length) <|
 gd (inb a1.1 a0.length) <|
 bnd (zX ((rdD (0, 0) a0 a1.2.2).1, (rdD (0, 0) a0 a1.2.2).2) ((rdD (0, 0) a0 a1.1).1, (rdD (0, 0) a0 a1.1).2) (a2.1, a2.2)) fun r4 =>
 j1 (decide (r4 ≥ 0))
 else
 j1 false
 else
 j1 false
theorem zrh (k:Nat) (zX:PPt→PPt→PPt→Option Int) (a0:LPt) (a1:(Int×PPt)) (a2:PPt):zP [⟨81,[.d kPP,.d kPP,.d kPP],[kI],fun x=>zX (x.1) (x.2.1) (x.2.2),none⟩] tb k Tryz.f92 zky [.d kLP,.d (.pair kI kPP),.d kPP] [.bool] (a0,a1,a2)=zi1 k zX a0 a1 a2:=by kernel_rfl
def za2 (k:Nat) (a0:LPt) (a1:(Int×PPt)) (a2:PPt):Option Bool:=zi1 k (qQ k) a0 a1 a2
theorem zl5 (k:Nat):zx Tryz.prog 92 [.d kLP,.d (.pair kI kPP),.d kPP] [.bool] (fun x=>za2 k (x.1) (x.2.1) (x.2.2)):=fun x y h=>zk zR mix (zp.cons (ze.of rfl (Qq k)) (zp.nil _)) Tryz.func92 (N:=k) (an:=zky) (by kernel_rfl) x y ((zrh k (qQ k) (x.1) (x.2.1) (x.2.2)).trans h)
def zgt:Ann:=uNn uLf (uNn (uNn uLf (uNn (.node none (some [(0,.d kLP),(3,.box [.d (.pair kI kPP)]),(7,.d kLP),(8,.d kI),(9,.d kI)]) (uNn uLf (uNn uLf (uNn (uNn (uNn uLf (uNn (.node (some [(0,.d kLP),(3,.box [.d (.pair kI kPP)]),(7,.d kLP),(8,.d kI),(9,.d kI),(35,.d .bool)]) none uLf uLf) uLf)) uLf) uLf))) uLf) uLf)) uLf)
def zdp (k : Nat) (zf2 : LPt → (Int × PPt) → PPt → Option Bool) (a0 : LPt) (a1 : (Int × PPt)) : Option Bool :=
 zA (α := (LPt × ((Int × PPt) × (LPt × PPt)))) (fun (x1, x2, x3, x4, x5) next0 =>
 bif decide (x5 < x4) then
 gd (inb x5 x3.length) <|
 zz (α := (LPt × ((Int × PPt) × (LPt × (Int × (Int × Bool)))))) (fun (y6, y7, y8, y9, y10, y11) =>
 bif y11 then
 some false
 else
 next0 (y6, (y7.1, y7.2.1, y7.2.2), y8, y9, w64 (y10 + 1))) fun j12 =>
 bif !(decide (x5 = x2.1)) then
 bif !(decide (x5 = x2.2.1)) then
 bif !(decide (x5 = x2.2.2)) then
 bnd (zf2 x1 (x2.1, x2.2.1, x2.2.2) ((rdD (0, 0) x3 x5).1, (rdD (0, 0) x3 x5).2)) fun r13 =>
 j12 (x1, (x2.1, x2.2.1, x2.2.2), x3, x4, x5, r13)
 else
 j12 (x1, (x2.1, x2.2.1, x2.2.2), x3, x4, x5, false)
 else
 j12 (x1, (x2.1, x2.2.1, x2.2.2), x3, x4, x5, false)
 else
 j12 (x1, (x2.1, x2.2.1, x2.2.2), x3, x4, x5, false)
 else
 some true) k (a0, (a1.1, a1.2.1, a1.2.2), a0, (a0.length : Int), 0)
theorem zlW (k:Nat) (zf2:LPt→(Int×PPt)→PPt→Option Bool) (a0:LPt) (a1:(Int×PPt)):zP [⟨92,[.d kLP,.d (.pair kI kPP),.d kPP],[.bool],fun x=>zf2 (x.1) (x.2.1) (x.2.2),none⟩] tb k Tryz.f55 zgt [.d kLP,.d (.pair kI kPP)] [.bool] (a0,a1)=zdp k zf2 a0 a1:=by kernel_rfl
def ZL (k:Nat) (a0:LPt) (a1:(Int×PPt)):Option Bool:=zdp k (za2 k) a0 a1
theorem ziU (k:Nat):zx Tryz.prog 55 [.d kLP,.d (.pair kI kPP)] [.bool] (fun x=>ZL k (x.1) (x.2)):=fun x y h=>zk zR mix (zp.cons (ze.of rfl (zl5 k)) (zp.nil _)) Tryz.func55 (N:=k) (an:=zgt) (by kernel_rfl) x y ((zlW k (za2 k) (x.1) (x.2)).trans h)
def zhr:Ann:=uNn uLf (uNn uLf (uNn uLf (uNn uLf (uNn (uNn uLf (uNn (.node none (some [(1,.box [.d kPl]),(2,.box [.row kPP 44,.row (.pair kI kPP) 56,.row kPP 60]),(4,.d kLP),(6,.mp kPP .bool),(27,.d kLP),(28,.d kI),(29,.d kI)]) uLf uLf) uLf)) (uNn uLf (uNn (uNn uLf (uNn (.node none (some [(1,.box [.d kPl]),(2,.box [.row kPP 44,.row (.pair kI kPP) 56,.row kPP 60]),(6,.mp kPP .bool),(9,.box [.row kPP 44,.row (.pair kI kPP) 56,.d kLP]),(42,.d kLP),(43,.d kI),(44,.d kI)]) (uNn uLf (uNn uLf (uNn (uNn (uNn uLf (uNn uLf (uNn (.node none (some [(1,.box [.d kPl]),(2,.box [.row kPP 44,.row (.pair kI kPP) 56,.row kPP 60]),(6,.mp kPP .bool),(9,.box [.row kPP 44,.row (.pair kI kPP) 56,.d kLP]),(11,.box [.d kPP]),(12,.d kI),(42,.d kLP),(43,.d kI),(44,.d kI)]) (uNn uLf (uNn (.node (some [(1,.box [.d kPl]),(2,.box [.row kPP 44,.row (.pair kI kPP) 56,.row kPP 60]),(6,.mp kPP .bool),(9,.box [.row kPP 44,.row (.pair kI kPP) 56,.d kLP]),(11,.box [.d kPP]),(12,.d kI),(42,.d kLP),(43,.d kI),(44,.d kI)]) none (uNn (uNn (.node (some [(1,.box [.d kPl]),(2,.box [.row kPP 44,.row (.pair kI kPP) 56,.row kPP 60]),(6,.mp kPP .bool),(9,.box [.row kPP 44,.row (.pair kI kPP) 56,.d kLP]),(11,.box [.d kPP]),(12,.d kI),(42,.d kLP),(43,.d kI),(44,.d kI),(73,.d .bool)]) none uLf uLf) uLf) (uNn uLf (uNn uLf (uNn (.node (some [(1,.box [.d kPl]),(2,.box [.row kPP 44,.row (.pair kI kPP) 56,.row kPP 60]),(6,.mp kPP .bool),(9,.box [.row kPP 44,.row (.pair kI kPP) 56,.d kLP]),(11,.box [.d kPP]),(12,.d kI),(13,.box [.d (.pair kI kPP)]),(42,.d kLP),(43,.d kI),(44,.d kI),(108,.d .bool)]) none uLf uLf) (.node (some [(1,.box [.d kPl]),(2,.box [.row kPP 44,.row (.pair kI kPP) 56,.row kPP 60]),(6,.mp kPP .bool),(9,.box [.row kPP 44,.row (.pair kI kPP) 56,.d kLP]),(11,.box [.d kPP]),(12,.d kI),(42,.d kLP),(43,.d kI),(44,.d kI)]) none uLf uLf))))) uLf) uLf)) uLf) uLf))) uLf) uLf))) uLf) uLf)) uLf))))))
def zfl (k : Nat) (ZM : TPl → Option (LPt × Int)) (Qu : TPl → Option LPt) (Js : LPt → Int → Int → Int → Option ((Int × PPt) × Bool)) (YL : LPt → LPt → Int → Int → Int → Option PPt) (zaR : LPt → (Int × PPt) → Option Bool) (a0 : TPl) : Option (TMs × Int) :=
 bnd (ZM (a0.1, a0.2.1, a0.2.2)) fun r0 =>
 bif !(decide (r0.2 = 0)) then
 some (([], [], []), r0.2)
 else
 zA (α := (TPl × (TMs × (LPt × ((List (PPt × Bool)) × (LPt × PPt)))))) (fun (x2, x3, x4, x5, x6, x7, x8) next1 =>
 bif decide (x8 < x7) then
 gd (inb x8 x6.length) <|
 gd (!(hsM (.pair (.int .i64) (.int .i64)) .bool x5 ((rdD (0, 0) x6 x8).1, (rdD (0, 0) x6 x8).2))) <|
 next1 ((x2.1, x2.2.1, x2.2.2), (x3.1, x3.2.1, x3.2.2), x4, adM (.pair (.int .i64) (.int .i64)) .bool x5 ((rdD (0, 0) x6 x8).1, (rdD (0, 0) x6 x8).2) true, x6, x7, w64 (x8 + 1))
 else
 gd (decide (0 < (x2.1.length : Int))) <|
 gd (few x2.1.length) <|
 bnd (Qu (x2.1, x2.2.1, x2.2.2)) fun r9 =>
 zA (α := (TPl × (TMs × ((List (PPt × Bool)) × (TMs × (LPt × PPt)))))) (fun (x11, x12, x13, x14, x15, x16, x17) next10 =>
 bif decide (x17 < x16) then
 gd (inb x17 x15.length) <|
 zA (α := (TPl × (TMs × ((List (PPt × Bool)) × (TMs × (PPt × (Int × (LPt × PPt)))))))) (fun (x19, x20, x21, x22, x23, x24, x25, x26, x27) next18 =>
 bif decide (x24 < (x19.1.length : Int)) then
 zz (α := (TPl × (TMs × ((List (PPt × Bool)) × (TMs × (PPt × (Int × (LPt × PPt)))))))) (fun (y28, y29, y30, y31, y32, y33, y34, y35, y36) =>
 next18 ((y28.1, y28.2.1, y28.2.2), (y29.1, y29.2.1, y29.2.2), y30, (y31.1, y31.2.1, y31.2.2), (y32.1, y32.2), w64 (y33 + 1), y34, y35, y36)) fun j37 =>
 zz (α := (TPl × (TMs × ((List (PPt × Bool)) × (TMs × (PPt × (Int × (LPt × (Int × (Int × Bool)))))))))) (fun (y38, y39, y40, y41, y42, y43, y44, y45, y46, y47) =>
 bif y47 then
 j37 ((y38.1, y38.2.1, y38.2.2), (y39.1, y39.2.1, y39.2.2), y40, (y41.1, y41.2.1, y41.2.2), (y42.1, y42.2), y43, y44, y45, y46)
 else
 bnd (Js y38.1 y42.1 y42.2 y43) fun r48 =>
 bnd (YL y38.1 y38.2.1 y42.1 y42.2 y43) fun r49 =>
 zz (α := (TPl × (TMs × ((List (PPt × Bool)) × (TMs × (PPt × (Int × ((Int × PPt) × (LPt × (Int × (Int × Bool))))))))))) (fun (y50, y51, y52, y53, y54, y55, y56, y57, y58, y59, y60) =>
 zz (α := (TPl × (TMs × ((List (PPt × Bool)) × (TMs × (PPt × (Int × (LPt × PPt)))))))) (fun (y61, y62, y63, y64, y65, y66, y67, y68, y69) =>
 j37 ((y61.1, y61.2.1, y61.2.2), (y62.1, y62.2.1, y62.2.2), y63, (y64.1, y64.2.1, y64.2.2), (y65.1, y65.2), y66, y67, y68, y69)) fun j70 =>
 bif y60 then
 gd (few (y53.2.1.length + 1)) <|
 j70 ((y50.1, y50.2.1, y50.2.2), (y51.1, y51.2.1, y51.2.2), y52, (y53.1, y53.2.1 ++ [(y56.1, y56.2.1, y56.2.2)], y53.2.2), (y54.1, y54.2), y55, y57, y58, y59)
 else
 j70 ((y50.1, y50.2.1, y50.2.2), (y51.1, y51.2.1, y51.2.2), y52, (y53.1, y53.2.1, y53.2.2), (y54.1, y54.2), y55, y57, y58, y59)) fun j71 =>
 bif r48.2 then
 bif decide (r49.1 = 1) then
 bnd (zaR y38.1 (r48.1.1, r48.1.2.1, r48.1.2.2)) fun r72 =>
 j71 ((y38.1, y38.2.1, y38.2.2), (y39.1, y39.2.1, y39.2.2), y40, (y41.1, y41.2.1, y41.2.2), (y42.1, y42.2), y43, (r48.1.1, r48.1.2.1, r48.1.2.2), y44, y45, y46, r72)
 else
 j71 ((y38.1, y38.2.1, y38.2.2), (y39.1, y39.2.1, y39.2.2), y40, (y41.1, y41.2.1, y41.2.2), (y42.1, y42.2), y43, (r48.1.1, r48.1.2.1, r48.1.2.2), y44, y45, y46, false)
 else
 j71 ((y38.1, y38.2.1, y38.2.2), (y39.1, y39.2.1, y39.2.2), y40, (y41.1, y41.2.1, y41.2.2), (y42.1, y42.2), y43, (r48.1.1, r48.1.2.1, r48.1.2.2), y44, y45, y46, false)) fun j73 =>
 bif !(toT Bool (lkM (.pair (.int .i64) (.int .i64)) .bool x21 (x23.1, x24))) then
 j73 ((x19.1, x19.2.1, x19.2.2), (x20.1, x20.2.1, x20.2.2), x21, (x22.1, x22.2.1, x22.2.2), (x23.1, x23.2), x24, x25, x26, x27, true)
 else
 j73 ((x19.1, x19.2.1, x19.2.2), (x20.1, x20.2.1, x20.2.2), x21, (x22.1, x22.2.1, x22.2.2), (x23.1, x23.2), x24, x25, x26, x27, !(toT Bool (lkM (.pair (.int .i64) (.int .i64)) .bool x21 (x23.2, x24))))
 else
 next10 ((x19.1, x19.2.1, x19.2.2), (x20.1, x20.2.1, x20.2.2), x21, (x22.1, x22.2.1, x22.2.2), x25, x26, w64 (x27 + 1))) k ((x11.1, x11.2.1, x11.2.2), (x12.1, x12.2.1, x12.2.2), x13, (x14.1, x14.2.1, x14.2.2), ((rdD (0, 0) x15 x17).1, (rdD (0, 0) x15 x17).2), w64 ((rdD (0, 0) x15 x17).2 + 1), x15, x16, x17)
 else
 gd (few x14.2.1.length) <|
 some ((x14.1, Xw Yp x14.2.1, x14.2.2), 0)) k ((x2.1, x2.2.1, x2.2.2), (x3.1, x3.2.1, x3.2.2), x5, (x2.1, [], r9), x4, (x4.length : Int), 0)) k ((a0.1, a0.2.1, a0.2.2), ([], [], []), r0.1, [], r0.1, (r0.1.length : Int), 0)
theorem zoF (k:Nat) (ZM:TPl→Option (LPt×Int)) (Qu:TPl→Option LPt) (Js:LPt→Int→Int→Int→Option ((Int×PPt)×Bool)) (YL:LPt→LPt→Int→Int→Int→Option PPt) (zaR:LPt→(Int×PPt)→Option Bool) (a0:TPl):zP [⟨56,[],[],fun _=>none,some (.srt (.pair kI kPP) 57 Yp)⟩,⟨13,[.d kPl],[.sl kPP,kI],fun x=>ZM x,none⟩,⟨46,[.d kPl],[.sl kPP],fun x=>Qu x,none⟩,⟨40,[.d kLP,.d kI,.d kI,.d kI],[.pair kI kPP,.bool],fun x=>Js (x.1) (x.2.1) (x.2.2.1) (x.2.2.2),none⟩,⟨54,[.d kLP,.d kLP,.d kI,.d kI,.d kI],[kI,kI],fun x=>YL (x.1) (x.2.1) (x.2.2.1) (x.2.2.2.1) (x.2.2.2.2),none⟩,⟨55,[.d kLP,.d (.pair kI kPP)],[.bool],fun x=>zaR (x.1) (x.2),none⟩] tbm k Tryz.f15 zhr [.d kPl] [.pair kLP (.pair (.sl (.pair kI kPP)) kLP),kI] a0=zfl k ZM Qu Js YL zaR a0:=by kernel_rfl
def ZY (k:Nat) (a0:TPl):Option (TMs×Int):=zfl k (ZJ k) (ZZ k) (Z3 k) (Zt k) (ZL k) a0
theorem zd3 (k:Nat):zx Tryz.prog 15 [.d kPl] [.pair kLP (.pair (.sl (.pair kI kPP)) kLP),kI] (fun x=>ZY k x):=fun x y h=>zk zzL mix (zp.cons (ze.sort zzZ) (zp.cons (ze.of rfl (zcS k)) (zp.cons (ze.of rfl (zid k)) (zp.cons (ze.of rfl (zfc k)) (zp.cons (ze.of rfl (zhk k)) (zp.cons (ze.of rfl (ziU k)) (zp.nil _))))))) Tryz.func15 (N:=k) (an:=zhr) (by kernel_rfl) x y ((zoF k (ZJ k) (ZZ k) (Z3 k) (Zt k) (ZL k) x).trans h)
end
end Go.Proofs.YtpkkcjmblocjdaaGreat.AM
