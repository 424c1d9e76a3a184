/- The functions, by their texts: written by a program. -/
import Derived.Test.YtpkkcjmblocjdaaGreatGa3
import Derived.Test.YtpkkcjmblocjdaaGreatCln
set_option linter.unusedVariables false
set_option linter.unusedSimpArgs false
set_option linter.unusedSectionVars false
set_option maxRecDepth 100000
namespace Go.Proofs.YtpkkcjmblocjdaaGreat.AM
open Go.RowKit Go.Proofs
noncomputable section
def zcf:Ann:=uNn uLf (uNn uLf (uNn uLf (uNn (uNn uLf (uNn (.node none (some [(0,.d kLP),(1,.d kLP),(8,.d kI),(9,.box [.d kPP]),(16,.d (.sl kI)),(17,.d kI),(18,.d kI)]) (uNn uLf (uNn uLf (uNn (uNn (uNn uLf (uNn (uNn (.node (some [(0,.d kLP),(1,.d kLP),(8,.d kI),(9,.box [.d kPP]),(11,.d kI),(16,.d (.sl kI)),(17,.d kI),(18,.d kI),(38,.d .bool)]) none uLf uLf) uLf) uLf)) uLf) uLf))) uLf) uLf)) (uNn uLf (uNn (uNn (.node (some [(9,.box [.d kPP]),(12,.d (.sl (.pair kPP kPP))),(72,.d .bool)]) none uLf uLf) uLf) uLf)))))
def XX (k : Nat) (zI : LPt → Option Bool) (Xn : LPt → LPt → (Int × Unit) → Option ((List (PPt × PPt)) × Bool)) (jN : (List (PPt × PPt)) → PPt → Option Int) (a0 : LPt) (a1 : LPt) (a2 : (List Int)) : Option PPt :=
 zw (α := (LPt × (LPt × (Int × (PPt × ((List Int) × PPt)))))) (fun (x1, x2, x3, x4, x5, x6, x7) next0 =>
 bif decide (x7 < x6) then
 gd (inb x7 x5.length) <|
 zx (α := (LPt × (LPt × (Int × (PPt × (Int × ((List Int) × (Int × (Int × Bool))))))))) (fun (y8, y9, y10, y11, y12, y13, y14, y15, y16) =>
 bif y16 then
 some (0, 2)
 else
 gd (inb y12 y8.length) <|
 gd (inb y12 y8.length) <|
 next0 (y8, y9, y10, (w64 (y11.1 + (rdD (0, 0) y8 y12).1), w64 (y11.2 + (rdD (0, 0) y8 y12).2)), y13, y14, w64 (y15 + 1))) fun j17 =>
 bif decide ((rdD 0 x5 x7) < 0) then
 j17 (x1, x2, x3, (x4.1, x4.2), rdD 0 x5 x7, x5, x6, x7, true)
 else
 bif decide ((rdD 0 x5 x7) ≥ (x1.length : Int)) then
 j17 (x1, x2, x3, (x4.1, x4.2), rdD 0 x5 x7, x5, x6, x7, true)
 else
 gd (inb (rdD 0 x5 x7) x1.length) <|
 bnd (zI [((rdD (0, 0) x1 (rdD 0 x5 x7)).1, (rdD (0, 0) x1 (rdD 0 x5 x7)).2)]) fun r18 =>
 j17 (x1, x2, x3, (x4.1, x4.2), rdD 0 x5 x7, x5, x6, x7, !r18)
 else
 bnd (Xn x1 x2 (x3, ())) fun r19 =>
 zx (α := (PPt × ((List (PPt × PPt)) × Bool))) (fun (y20, y21, y22) =>
 bif y22 then
 some (0, 2)
 else
 bnd (jN y21 (y20.1, y20.2)) fun r23 =>
 some (r23, 0)) fun j24 =>
 bif !r19.2 then
 j24 ((x4.1, x4.2), r19.1, true)
 else
 bnd (zI [(x4.1, x4.2)]) fun r25 =>
 j24 ((x4.1, x4.2), r19.1, !r25)) k (a0, a1, (a2.length : Int), (0, 0), a2, (a2.length : Int), 0)
theorem ziU (k:Nat) (zI:LPt→Option Bool) (Xn:LPt→LPt→(Int×Unit)→Option ((List (PPt×PPt))×Bool)) (jN:(List (PPt×PPt))→PPt→Option Int) (a0:LPt) (a1:LPt) (a2:(List Int)):zN [⟨108,[.d kLP],[.bool],fun x=>zI x,none⟩,⟨132,[.d kLP,.d kLP,.fn 133 [(.d kI)] []],[.sl (.pair kPP kPP),.bool],fun x=>Xn (x.1) (x.2.1) (x.2.2),none⟩,⟨134,[.d (.sl (.pair kPP kPP)),.d kPP],[kI],fun x=>jN (x.1) (x.2),none⟩] tb k Tryz.f91 zcf [.d kLP,.d kLP,.d (.sl kI)] [kI,kI] (a0,a1,a2)=XX k zI Xn jN a0 a1 a2:=by kernel_rfl
def jU (k:Nat) (a0:LPt) (a1:LPt) (a2:(List Int)):Option PPt:=XX k (qu k) (KG k) (ZR k) a0 a1 a2
theorem X6 (k:Nat):zv Tryz.prog 91 [.d kLP,.d kLP,.d (.sl kI)] [kI,kI] (fun x=>jU k (x.1) (x.2.1) (x.2.2)):=fun x y h=>zh zO mix (zo.cons (ze.of rfl (jX k)) (zo.cons (ze.of rfl (zhO k)) (zo.cons (ze.of rfl (zaR k)) (zo.nil _)))) Tryz.func91 (N:=k) (an:=zcf) (by kernel_rfl) x y ((ziU k (qu k) (KG k) (ZR k) (x.1) (x.2.1) (x.2.2)).trans h)
def zbv:Ann:=uLf
def Y6 (k : Nat) (jq : LPt → LPt → (List Int) → Option PPt) (a0 : LPt) (a1 : LPt) (a2 : Int) (a3 : Int) : Option PPt :=
 bnd (jq a0 a1 [a2, a3]) fun r0 =>
 some (r0.1, r0.2)
theorem zhE (k:Nat) (jq:LPt→LPt→(List Int)→Option PPt) (a0:LPt) (a1:LPt) (a2:Int) (a3:Int):zN [⟨91,[.d kLP,.d kLP,.d (.sl kI)],[kI,kI],fun x=>jq (x.1) (x.2.1) (x.2.2),none⟩] tb k Tryz.f86 zbv [.d kLP,.d kLP,.d kI,.d kI] [kI,kI] (a0,a1,a2,a3)=Y6 k jq a0 a1 a2 a3:=by kernel_rfl
def jC (k:Nat) (a0:LPt) (a1:LPt) (a2:Int) (a3:Int):Option PPt:=Y6 k (jU k) a0 a1 a2 a3
theorem XQ (k:Nat):zv Tryz.prog 86 [.d kLP,.d kLP,.d kI,.d kI] [kI,kI] (fun x=>jC k (x.1) (x.2.1) (x.2.2.1) (x.2.2.2)):=fun x y h=>zh zO mix (zo.cons (ze.of rfl (X6 k)) (zo.nil _)) Tryz.func86 (N:=k) (an:=zbv) (by kernel_rfl) x y ((zhE k (jU k) (x.1) (x.2.1) (x.2.2.1) (x.2.2.2)).trans h)
def zhM:Ann:=uNn uLf (uNn (uNn uLf (uNn (.node none (some [(1,.box [.d kPl]),(2,.box [.d (.pair kI kPP)]),(8,.d kLP),(9,.d kI),(10,.d kI)]) uLf uLf) uLf)) uLf)
def zex (k : Nat) (jc : LPt → LPt → Int → Int → Option PPt) (a0 : TPl) : Option (Int × PPt) :=
 zw (α := (TPl × ((Int × PPt) × (LPt × PPt)))) (fun (x1, x2, x3, x4, x5) next0 =>
 bif decide (x5 < x4) then
 gd (inb x5 x3.length) <|
 bnd (jc x1.1 x1.2.1 (rdD (0, 0) x3 x5).1 (rdD (0, 0) x3 x5).2) fun r6 =>
 bif !(decide (r6.1 = 1)) then
 some (7, x5, 0)
 else
 next0 ((x1.1, x1.2.1, x1.2.2), (x2.1, x2.2.1, x2.2.2), x3, x4, w64 (x5 + 1))
 else
 some (0, 0, 0)) k ((a0.1, a0.2.1, a0.2.2), (0, 0, 0), a0.2.2, (a0.2.2.length : Int), 0)
theorem zno (k:Nat) (jc:LPt→LPt→Int→Int→Option PPt) (a0:TPl):zN [⟨86,[.d kLP,.d kLP,.d kI,.d kI],[kI,kI],fun x=>jc (x.1) (x.2.1) (x.2.2.1) (x.2.2.2),none⟩] tb k Tryz.f116 zhM [.d kPl] [.pair kI kPP] a0=zex k jc a0:=by kernel_rfl
def XB (k:Nat) (a0:TPl):Option (Int×PPt):=zex k (jC k) a0
theorem zju (k:Nat):zv Tryz.prog 116 [.d kPl] [.pair kI kPP] (fun x=>XB k x):=fun x y h=>zh zO mix (zo.cons (ze.of rfl (XQ k)) (zo.nil _)) Tryz.func116 (N:=k) (an:=zhM) (by kernel_rfl) x y ((zno k (jC k) x).trans h)
def zfb:Ann:=uLf
def Ko (k : Nat) (a0 : PPt) : Option PPt :=
 some (a0.1, a0.2)
theorem zlh (k:Nat) (a0:PPt):zN [] tb k Tryz.f173 zfb [.d kPP] [.pair kI kI] a0=Ko k a0:=by kernel_rfl
theorem zhp (k:Nat):zv Tryz.prog 173 [.d kPP] [.pair kI kI] (fun x=>Ko k x):=fun x y h=>zh zO mix (zo.nil _) Tryz.func173 (N:=k) (an:=zfb) (by kernel_rfl) x y ((zlh k x).trans h)
def zcy:Ann:=uNn uLf (uNn uLf (uNn (uNn uLf (uNn (.node none (some [(0,.d kLP),(2,.fn 173 [] []),(8,.row (.pair kPP kPP) 177),(13,.d kLP),(14,.d kI),(15,.d kI)]) (uNn uLf (uNn uLf (uNn (uNn (uNn uLf (uNn (uNn (.node (some [(0,.d kLP),(2,.fn 173 [] []),(8,.row (.pair kPP kPP) 177),(10,.box [.d kPP]),(13,.d kLP),(14,.d kI),(15,.d kI),(68,.d .bool)]) none uLf uLf) uLf) uLf)) uLf) uLf))) uLf) uLf)) uLf))
def XY (k : Nat) (zI : LPt → Option Bool) (Kv : PPt → Option PPt) (a0 : LPt) (a1 : LPt) (a2 : (Unit × Unit)) : Option ((List (PPt × PPt)) × Bool) :=
 zw (α := (LPt × ((Unit × Unit) × ((List (PPt × PPt)) × (LPt × PPt))))) (fun (x1, x2, x3, x4, x5, x6) next0 =>
 bif decide (x6 < x5) then
 gd (inb x6 x4.length) <|
 zx (α := (LPt × ((Unit × Unit) × ((List (PPt × PPt)) × (PPt × (LPt × (Int × (Int × Bool)))))))) (fun (y7, y8, y9, y10, y11, y12, y13, y14) =>
 bif y14 then
 some ([], false)
 else
 gd (inb y10.1 y7.length) <|
 bnd (Kv ((rdD (0, 0) y7 y10.1).1, (rdD (0, 0) y7 y10.1).2)) fun r15 =>
 gd (inb y10.2 y7.length) <|
 bnd (Kv ((rdD (0, 0) y7 y10.2).1, (rdD (0, 0) y7 y10.2).2)) fun r16 =>
 bnd (zI [(r15.1, r15.2), (r16.1, r16.2)]) fun r17 =>
 bif !r17 then
 some ([], false)
 else
 gd (few (y9.length + 1)) <|
 next0 (y7, ((), ()), y9 ++ [((r15.1, r15.2), r16.1, r16.2)], y11, y12, w64 (y13 + 1))) fun j18 =>
 bif decide ((rdD (0, 0) x4 x6).1 < 0) then
 j18 (x1, ((), ()), x3, ((rdD (0, 0) x4 x6).1, (rdD (0, 0) x4 x6).2), x4, x5, x6, true)
 else
 bif decide ((rdD (0, 0) x4 x6).1 ≥ (x1.length : Int)) then
 j18 (x1, ((), ()), x3, ((rdD (0, 0) x4 x6).1, (rdD (0, 0) x4 x6).2), x4, x5, x6, true)
 else
 bif decide ((rdD (0, 0) x4 x6).2 < 0) then
 j18 (x1, ((), ()), x3, ((rdD (0, 0) x4 x6).1, (rdD (0, 0) x4 x6).2), x4, x5, x6, true)
 else
 bif decide ((rdD (0, 0) x4 x6).2 ≥ (x1.length : Int)) then
 j18 (x1, ((), ()), x3, ((rdD (0, 0) x4 x6).1, (rdD (0, 0) x4 x6).2), x4, x5, x6, true)
 else
 gd (inb (rdD (0, 0) x4 x6).1 x1.length) <|
 gd (inb (rdD (0, 0) x4 x6).2 x1.length) <|
 bif (decide ((rdD (0, 0) x1 (rdD (0, 0) x4 x6).1).1 = (rdD (0, 0) x1 (rdD (0, 0) x4 x6).2).1)) && (decide ((rdD (0, 0) x1 (rdD (0, 0) x4 x6).1).2 = (rdD (0, 0) x1 (rdD (0, 0) x4 x6).2).2)) then
 j18 (x1, ((), ()), x3, ((rdD (0, 0) x4 x6).1, (rdD (0, 0) x4 x6).2), x4, x5, x6, true)
 else
 gd (inb (rdD (0, 0) x4 x6).1 x1.length) <|
 gd (inb (rdD (0, 0) x4 x6).2 x1.length) <|
 bnd (zI [((rdD (0, 0) x1 (rdD (0, 0) x4 x6).1).1, (rdD (0, 0) x1 (rdD (0, 0) x4 x6).1).2), ((rdD (0, 0) x1 (rdD (0, 0) x4 x6).2).1, (rdD (0, 0) x1 (rdD (0, 0) x4 x6).2).2)]) fun r19 =>
 j18 (x1, ((), ()), x3, ((rdD (0, 0) x4 x6).1, (rdD (0, 0) x4 x6).2), x4, x5, x6, !r19)
 else
 some (x3, true)) k (a0, ((), ()), [], a1, (a1.length : Int), 0)
theorem ziX (k:Nat) (zI:LPt→Option Bool) (Kv:PPt→Option PPt) (a0:LPt) (a1:LPt) (a2:(Unit×Unit)):zN [⟨108,[.d kLP],[.bool],fun x=>zI x,none⟩,⟨173,[.d kPP],[.pair kI kI],fun x=>Kv x,none⟩] tb k Tryz.f132 zcy [.d kLP,.d kLP,.fn 173 [] []] [.sl (.pair kPP kPP),.bool] (a0,a1,a2)=XY k zI Kv a0 a1 a2:=by kernel_rfl
def Ja (k:Nat) (a0:LPt) (a1:LPt) (a2:(Unit×Unit)):Option ((List (PPt×PPt))×Bool):=XY k (qu k) (Ko k) a0 a1 a2
theorem zfT (k:Nat):zv Tryz.prog 132 [.d kLP,.d kLP,.fn 173 [] []] [.sl (.pair kPP kPP),.bool] (fun x=>Ja k (x.1) (x.2.1) (x.2.2)):=fun x y h=>zh zO mix (zo.cons (ze.of rfl (jX k)) (zo.cons (ze.of rfl (zhp k)) (zo.nil _))) Tryz.func132 (N:=k) (an:=zcy) (by kernel_rfl) x y ((ziX k (qu k) (Ko k) (x.1) (x.2.1) (x.2.2)).trans h)
def zhD:Ann:=uNn uLf (uNn uLf (uNn (uNn (.node (some [(5,.box [.d kPP]),(8,.d (.sl (.pair kPP kPP))),(23,.d .bool)]) none uLf uLf) uLf) uLf))
def zfa (k : Nat) (KJ : LPt → LPt → (Unit × Unit) → Option ((List (PPt × PPt)) × Bool)) (zI : LPt → Option Bool) (jN : (List (PPt × PPt)) → PPt → Option Int) (a0 : LPt) (a1 : LPt) (a2 : PPt) : Option PPt :=
 bnd (KJ a0 a1 ((), ())) fun r0 =>
 zx (α := (PPt × ((List (PPt × PPt)) × Bool))) (fun (y1, y2, y3) =>
 bif y3 then
 some (0, 2)
 else
 bnd (jN y2 (y1.1, y1.2)) fun r4 =>
 some (r4, 0)) fun j5 =>
 bif !r0.2 then
 j5 ((a2.1, a2.2), r0.1, true)
 else
 bnd (zI [(a2.1, a2.2)]) fun r6 =>
 j5 ((a2.1, a2.2), r0.1, !r6)
theorem znN (k:Nat) (KJ:LPt→LPt→(Unit×Unit)→Option ((List (PPt×PPt))×Bool)) (zI:LPt→Option Bool) (jN:(List (PPt×PPt))→PPt→Option Int) (a0:LPt) (a1:LPt) (a2:PPt):zN [⟨132,[.d kLP,.d kLP,.fn 173 [] []],[.sl (.pair kPP kPP),.bool],fun x=>KJ (x.1) (x.2.1) (x.2.2),none⟩,⟨108,[.d kLP],[.bool],fun x=>zI x,none⟩,⟨134,[.d (.sl (.pair kPP kPP)),.d kPP],[kI],fun x=>jN (x.1) (x.2),none⟩] tb k Tryz.f153 zhD [.d kLP,.d kLP,.d kPP] [kI,kI] (a0,a1,a2)=zfa k KJ zI jN a0 a1 a2:=by kernel_rfl
def KV (k:Nat) (a0:LPt) (a1:LPt) (a2:PPt):Option PPt:=zfa k (Ja k) (qu k) (ZR k) a0 a1 a2
theorem zjE (k:Nat):zv Tryz.prog 153 [.d kLP,.d kLP,.d kPP] [kI,kI] (fun x=>KV k (x.1) (x.2.1) (x.2.2)):=fun x y h=>zh zO mix (zo.cons (ze.of rfl (zfT k)) (zo.cons (ze.of rfl (jX k)) (zo.cons (ze.of rfl (zaR k)) (zo.nil _)))) Tryz.func153 (N:=k) (an:=zhD) (by kernel_rfl) x y ((znN k (Ja k) (qu k) (ZR k) (x.1) (x.2.1) (x.2.2)).trans h)
def zfq:Ann:=uNn uLf (uNn uLf (uNn (uNn uLf (uNn (.node none (some [(1,.box [.d kPl]),(2,.box [.d (.pair kI kPP)]),(18,.d (.sl kI)),(19,.d kI),(20,.d kI)]) (uNn uLf (uNn uLf (uNn (uNn (uNn uLf (uNn uLf (uNn (.node (some [(1,.box [.d kPl]),(2,.box [.d (.pair kI kPP)]),(5,.d kI),(18,.d (.sl kI)),(19,.d kI),(20,.d kI),(43,.d .bool)]) none uLf uLf) uLf))) uLf) uLf))) uLf) uLf)) uLf))
def zbG (k : Nat) (qH : TPl → Option LPt) (jp : Int → LPt → Option ((List Int) × Int)) (zbi : LPt → LPt → PPt → Option PPt) (a0 : TPl) : Option (Int × PPt) :=
 bnd (qH (a0.1, a0.2.1, a0.2.2)) fun r0 =>
 bnd (jp (a0.1.length : Int) r0) fun r1 =>
 zw (α := (TPl × ((Int × PPt) × ((List Int) × PPt)))) (fun (x3, x4, x5, x6, x7) next2 =>
 bif decide (x7 < x6) then
 gd (inb x7 x5.length) <|
 gd (inb x7 x3.1.length) <|
 bnd (zbi x3.1 x3.2.1 ((rdD (0, 0) x3.1 x7).1, (rdD (0, 0) x3.1 x7).2)) fun r8 =>
 zx (α := (TPl × ((Int × PPt) × (Int × ((List Int) × (Int × (Int × Bool))))))) (fun (y9, y10, y11, y12, y13, y14, y15) =>
 bif y15 then
 some (8, y11, 0)
 else
 next2 ((y9.1, y9.2.1, y9.2.2), (y10.1, y10.2.1, y10.2.2), y12, y13, w64 (y14 + 1))) fun j16 =>
 bif decide ((rdD 0 x5 x7) = 0) then
 j16 ((x3.1, x3.2.1, x3.2.2), (x4.1, x4.2.1, x4.2.2), x7, x5, x6, x7, !(decide (r8.1 = 1)))
 else
 j16 ((x3.1, x3.2.1, x3.2.2), (x4.1, x4.2.1, x4.2.2), x7, x5, x6, x7, false)
 else
 some (0, 0, 0)) k ((a0.1, a0.2.1, a0.2.2), (0, 0, 0), r1.1, (r1.1.length : Int), 0)
theorem zlC (k:Nat) (qH:TPl→Option LPt) (jp:Int→LPt→Option ((List Int)×Int)) (zbi:LPt→LPt→PPt→Option PPt) (a0:TPl):zN [⟨148,[.d kPl],[.sl kPP],fun x=>qH x,none⟩,⟨152,[.d kI,.d kLP],[.sl kI,kI],fun x=>jp (x.1) (x.2),none⟩,⟨153,[.d kLP,.d kLP,.d kPP],[kI,kI],fun x=>zbi (x.1) (x.2.1) (x.2.2),none⟩] tb k Tryz.f117 zfq [.d kPl] [.pair kI kPP] a0=zbG k qH jp zbi a0:=by kernel_rfl
def Kw (k:Nat) (a0:TPl):Option (Int×PPt):=zbG k (qW k) (jV k) (KV k) a0
theorem zh0 (k:Nat):zv Tryz.prog 117 [.d kPl] [.pair kI kPP] (fun x=>Kw k x):=fun x y h=>zh zO mix (zo.cons (ze.of rfl (KN k)) (zo.cons (ze.of rfl (X8 k)) (zo.cons (ze.of rfl (zjE k)) (zo.nil _)))) Tryz.func117 (N:=k) (an:=zfq) (by kernel_rfl) x y ((zlC k (qW k) (jV k) (KV k) x).trans h)
def zfi:Ann:=uNn uLf (uNn uLf (uNn (uNn uLf (uNn (.node none (some [(1,.box [.d kPl]),(2,.box [.d (.pair kI kPP)]),(14,.con [111,112,113,114,115,116,117]),(15,.d kI)]) (uNn uLf (uNn uLf (uNn (uNn (uNn uLf (uNn (.node (some [(1,.box [.d kPl]),(2,.box [.d (.pair kI kPP)]),(7,.box [.d (.pair kI kPP)]),(14,.con [111,112,113,114,115,116,117]),(15,.d kI)]) none uLf uLf) uLf)) uLf) uLf))) uLf) uLf)) uLf))
def zbC (k : Nat) (Xl : TPl → Option Int) (Xo : TPl → Option (Int × PPt)) (Xg : TPl → Option (Int × PPt)) (Xk : TPl → Option (Int × PPt)) (Yq : TPl → Option (Int × PPt)) (zac : TPl → Option (Int × PPt)) (zbu : TPl → Option (Int × PPt)) (Xq : TPl → Option (Int × PPt)) (a0 : TPl) : Option ((Int × PPt) × Int) :=
 bnd (Xl (a0.1, a0.2.1, a0.2.2)) fun r0 =>
 bif !(decide (r0 = 0)) then
 some ((0, 0, 0), r0)
 else
 zw (α := (TPl × ((Int × PPt) × (Unit × Int)))) (fun (x2, x3, x4, x5) next1 =>
 bif decide (x5 < 7) then
 bif decide (x5 = 0) then
 zx (α := (TPl × ((Int × PPt) × ((Int × PPt) × (Unit × Int))))) (fun (y6, y7, y8, y9, y10) =>
 bif !(decide (y8.1 = 0)) then
 some ((y8.1, y8.2.1, y8.2.2), 0)
 else
 next1 ((y6.1, y6.2.1, y6.2.2), (y7.1, y7.2.1, y7.2.2), (), w64 (y10 + 1))) fun j11 =>
 bnd (Xo (x2.1, x2.2.1, x2.2.2)) fun r12 =>
 j11 ((x2.1, x2.2.1, x2.2.2), (x3.1, x3.2.1, x3.2.2), (r12.1, r12.2.1, r12.2.2), (), x5)
 else
 bif decide (x5 = 1) then
 zx (α := (TPl × ((Int × PPt) × ((Int × PPt) × (Unit × Int))))) (fun (y13, y14, y15, y16, y17) =>
 bif !(decide (y15.1 = 0)) then
 some ((y15.1, y15.2.1, y15.2.2), 0)
 else
 next1 ((y13.1, y13.2.1, y13.2.2), (y14.1, y14.2.1, y14.2.2), (), w64 (y17 + 1))) fun j18 =>
 bnd (Xg (x2.1, x2.2.1, x2.2.2)) fun r19 =>
 j18 ((x2.1, x2.2.1, x2.2.2), (x3.1, x3.2.1, x3.2.2), (r19.1, r19.2.1, r19.2.2), (), x5)
 else
 bif decide (x5 = 2) then
 zx (α := (TPl × ((Int × PPt) × ((Int × PPt) × (Unit × Int))))) (fun (y20, y21, y22, y23, y24) =>
 bif !(decide (y22.1 = 0)) then
 some ((y22.1, y22.2.1, y22.2.2), 0)
 else
 next1 ((y20.1, y20.2.1, y20.2.2), (y21.1, y21.2.1, y21.2.2), (), w64 (y24 + 1))) fun j25 =>
 bnd (Xk (x2.1, x2.2.1, x2.2.2)) fun r26 =>
 j25 ((x2.1, x2.2.1, x2.2.2), (x3.1, x3.2.1, x3.2.2), (r26.1, r26.2.1, r26.2.2), (), x5)
 else
 bif decide (x5 = 3) then
 zx (α := (TPl × ((Int × PPt) × ((Int × PPt) × (Unit × Int))))) (fun (y27, y28, y29, y30, y31) =>
 bif !(decide (y29.1 = 0)) then
 some ((y29.1, y29.2.1, y29.2.2), 0)
 else
 next1 ((y27.1, y27.2.1, y27.2.2), (y28.1, y28.2.1, y28.2.2), (), w64 (y31 + 1))) fun j32 =>
 bnd (Yq (x2.1, x2.2.1, x2.2.2)) fun r33 =>
 j32 ((x2.1, x2.2.1, x2.2.2), (x3.1, x3.2.1, x3.2.2), (r33.1, r33.2.1, r33.2.2), (), x5)
 else
 bif decide (x5 = 4) then
 zx (α := (TPl × ((Int × PPt) × ((Int × PPt) × (Unit × Int))))) (fun (y34, y35, y36, y37, y38) =>
 bif !(decide (y36.1 = 0)) then
 some ((y36.1, y36.2.1, y36.2.2), 0)
 else
 next1 ((y34.1, y34.2.1, y34.2.2), (y35.1, y35.2.1, y35.2.2), (), w64 (y38 + 1))) fun j39 =>
 bnd (zac (x2.1, x2.2.1, x2.2.2)) fun r40 =>
 j39 ((x2.1, x2.2.1, x2.2.2), (x3.1, x3.2.1, x3.2.2), (r40.1, r40.2.1, r40.2.2), (), x5)
 else
 bif decide (x5 = 5) then
 zx (α := (TPl × ((Int × PPt) × ((Int × PPt) × (Unit × Int))))) (fun (y41, y42, y43, y44, y45) =>
 bif !(decide (y43.1 = 0)) then
 some ((y43.1, y43.2.1, y43.2.2), 0)
 else
 next1 ((y41.1, y41.2.1, y41.2.2), (y42.1, y42.2.1, y42.2.2), (), w64 (y45 + 1))) fun j46 =>
 bnd (zbu (x2.1, x2.2.1, x2.2.2)) fun r47 =>
 j46 ((x2.1, x2.2.1, x2.2.2), (x3.1, x3.2.1, x3.2.2), (r47.1, r47.2.1, r47.2.2), (), x5)
 else
 bif decide (x5 = 6) then
 zx (α := (TPl × ((Int × PPt) × ((Int × PPt) × (Unit × Int))))) (fun (y48, y49, y50, y51, y52) =>
 bif !(decide (y50.1 = 0)) then
 some ((y50.1, y50.2.1, y50.2.2), 0)
 else
 next1 ((y48.1, y48.2.1, y48.2.2), (y49.1, y49.2.1, y49.2.2), (), w64 (y52 + 1))) fun j53 =>
 bnd (Xq (x2.1, x2.2.1, x2.2.2)) fun r54 =>
 j53 ((x2.1, x2.2.1, x2.2.2), (x3.1, x3.2.1, x3.2.2), (r54.1, r54.2.1, r54.2.2), (), x5)
 else
 none
 else
 some ((0, 0, 0), 0)) k ((a0.1, a0.2.1, a0.2.2), (0, 0, 0), (), 0)
theorem zkJ (k:Nat) (Xl:TPl→Option Int) (Xo:TPl→Option (Int×PPt)) (Xg:TPl→Option (Int×PPt)) (Xk:TPl→Option (Int×PPt)) (Yq:TPl→Option (Int×PPt)) (zac:TPl→Option (Int×PPt)) (zbu:TPl→Option (Int×PPt)) (Xq:TPl→Option (Int×PPt)) (a0:TPl):zN [⟨110,[.d kPl],[kI],fun x=>Xl x,none⟩,⟨111,[.d kPl],[.pair kI kPP],fun x=>Xo x,none⟩,⟨112,[.d kPl],[.pair kI kPP],fun x=>Xg x,none⟩,⟨113,[.d kPl],[.pair kI kPP],fun x=>Xk x,none⟩,⟨114,[.d kPl],[.pair kI kPP],fun x=>Yq x,none⟩,⟨115,[.d kPl],[.pair kI kPP],fun x=>zac x,none⟩,⟨116,[.d kPl],[.pair kI kPP],fun x=>zbu x,none⟩,⟨117,[.d kPl],[.pair kI kPP],fun x=>Xq x,none⟩] tb k Tryz.f82 zfi [.d kPl] [.pair kI kPP,kI] a0=zbC k Xl Xo Xg Xk Yq zac zbu Xq a0:=by kernel_rfl
def Jd (k:Nat) (a0:TPl):Option ((Int×PPt)×Int):=zbC k (Ji k) (KE k) (Ky k) (KD k) (JQ k) (K9 k) (XB k) (Kw k) a0
theorem zg4 (k:Nat):zv Tryz.prog 82 [.d kPl] [.pair kI kPP,kI] (fun x=>Jd k x):=fun x y h=>zh zO mix (zo.cons (ze.of rfl (zhz k)) (zo.cons (ze.of rfl (zhs k)) (zo.cons (ze.of rfl (zhV k)) (zo.cons (ze.of rfl (zhL k)) (zo.cons (ze.of rfl (zgN k)) (zo.cons (ze.of rfl (zim k)) (zo.cons (ze.of rfl (zju k)) (zo.cons (ze.of rfl (zh0 k)) (zo.nil _))))))))) Tryz.func82 (N:=k) (an:=zfi) (by kernel_rfl) x y ((zkJ k (Ji k) (KE k) (Ky k) (KD k) (JQ k) (K9 k) (XB k) (Kw k) x).trans h)
def zgc:Ann:=uNn uLf (uNn uLf (uNn (.node (some [(2,.d .bool)]) none uLf uLf) uLf))
def zdy (k : Nat) (Xh : TPl → Option ((Int × PPt) × Int)) (a0 : TPl) : Option Bool :=
 bnd (Xh (a0.1, a0.2.1, a0.2.2)) fun r0 =>
 zx (α := Bool) (fun y1 =>
 some y1) fun j2 =>
 bif decide (r0.2 = 0) then
 j2 (decide (r0.1.1 = 0))
 else
 j2 false
theorem zl2 (k:Nat) (Xh:TPl→Option ((Int×PPt)×Int)) (a0:TPl):zN [⟨82,[.d kPl],[.pair kI kPP,kI],fun x=>Xh x,none⟩] tb k Tryz.f45 zgc [.d kPl] [.bool] a0=zdy k Xh a0:=by kernel_rfl
def J6 (k:Nat) (a0:TPl):Option Bool:=zdy k (Jd k) a0
theorem zik (k:Nat):zv Tryz.prog 45 [.d kPl] [.bool] (fun x=>J6 k x):=fun x y h=>zh zO mix (zo.cons (ze.of rfl (zg4 k)) (zo.nil _)) Tryz.func45 (N:=k) (an:=zgc) (by kernel_rfl) x y ((zl2 k (Jd k) x).trans h)
def zlk:Ann:=uNn uLf (uNn uLf (uNn (uNn uLf (uNn (.node none (some [(0,.d (.sl kLP)),(3,.d kI),(9,.d (.sl kLP)),(10,.d kI),(11,.d kI)]) (uNn uLf (uNn uLf (uNn (uNn (uNn uLf (uNn uLf (uNn uLf (.node (some [(0,.d (.sl kLP)),(3,.d kI),(9,.d (.sl kLP)),(10,.d kI),(11,.d kI)]) none uLf uLf)))) uLf) uLf))) uLf) uLf)) (uNn uLf (uNn (uNn uLf (uNn (.node none (some [(6,.row kPP 60),(25,.d (.sl kLP)),(26,.d kI),(27,.d kI)]) uLf uLf) uLf)) uLf))))
def Y5 (k : Nat) (a0 : (List LPt)) : Option LPt :=
 zw (α := ((List LPt) × (Int × ((List LPt) × PPt)))) (fun (x1, x2, x3, x4, x5) next0 =>
 bif decide (x5 < x4) then
 gd (inb x5 x3.length) <|
 zx (α := ((List LPt) × (Int × ((List LPt) × PPt)))) (fun (y6, y7, y8, y9, y10) =>
 next0 (y6, y7, y8, y9, w64 (y10 + 1))) fun j11 =>
 bif decide ((w64 (x2 + ((rdD [] x3 x5).length : Int))) < 0) then
 none
 else
 j11 (x1, w64 (x2 + ((rdD [] x3 x5).length : Int)), x3, x4, x5)
 else
 gd (decide (0 ≤ x2)) <|
 gd (zfY x2) <|
 zw (α := (LPt × ((List LPt) × PPt))) (fun (x13, x14, x15, x16) next12 =>
 bif decide (x16 < x15) then
 gd (inb x16 x14.length) <|
 gd (few (x13.length + (rdD [] x14 x16).length)) <|
 next12 (x13 ++ (rdD [] x14 x16), x14, x15, w64 (x16 + 1))
 else
 some x13) k ([], x1, (x1.length : Int), 0)) k (a0, 0, a0, (a0.length : Int), 0)
theorem zqQ (k:Nat) (a0:(List LPt)):zN [⟨118,[],[],fun _=>none,some (.grw kPP 60)⟩] tb k Tryz.f83 zlk [.d (.sl kLP)] [.sl kPP] a0=Y5 k a0:=by kernel_rfl
theorem zf2 (k:Nat):zv Tryz.prog 83 [.d (.sl kLP)] [.sl kPP] (fun x=>Y5 k x):=fun x y h=>zh zO mix (zo.cons (ze.grow zrj) (zo.nil _)) Tryz.func83 (N:=k) (an:=zlk) (by kernel_rfl) x y ((zqQ k x).trans h)
def zkT:Ann:=uLf
def Jf (k : Nat) (a0 : PPt) : Option PPt :=
 some (mnI a0.1 a0.2, mxI a0.1 a0.2)
theorem zqz (k:Nat) (a0:PPt):zN [] tb k Tryz.f61 zkT [.d kPP] [.pair kI kI] a0=Jf k a0:=by kernel_rfl
theorem zbK (k:Nat):zv Tryz.prog 61 [.d kPP] [.pair kI kI] (fun x=>Jf k x):=fun x y h=>zh zO mix (zo.nil _) Tryz.func61 (N:=k) (an:=zkT) (by kernel_rfl) x y ((zqz k x).trans h)
def zav:Ann:=uNn uLf (uNn uLf (uNn (uNn uLf (uNn (.node none (some [(3,.row kPP 60),(11,.d kLP),(12,.d kI),(13,.d kI)]) uLf uLf) uLf)) uLf))
def zbp (k : Nat) (Xa : (List LPt) → Option LPt) (Z4 : PPt → Option PPt) (a0 : TPl) : Option LPt :=
 bnd (Xa [a0.2.1, a0.2.2]) fun r0 =>
 zw (α := (LPt × (LPt × PPt))) (fun (x2, x3, x4, x5) next1 =>
 bif decide (x5 < x4) then
 gd (inb x5 x3.length) <|
 bnd (Z4 ((rdD (0, 0) x3 x5).1, (rdD (0, 0) x3 x5).2)) fun r6 =>
 gd (few (x2.length + 1)) <|
 next1 (x2 ++ [(r6.1, r6.2)], x3, x4, w64 (x5 + 1))
 else
 gd (few x2.length) <|
 some (Y0 JW x2)) k ([], r0, (r0.length : Int), 0)
theorem zni (k:Nat) (Xa:(List LPt)→Option LPt) (Z4:PPt→Option PPt) (a0:TPl):zrh [⟨48,[],[],fun _=>none,some (.srt kPP 49 JW)⟩,⟨83,[.d (.sl kLP)],[.sl kPP],fun x=>Xa x,none⟩,⟨61,[.d kPP],[.pair kI kI],fun x=>Z4 x,none⟩] tb k Tryz.f46 zav [.d kPl] kPP 60 a0=zbp k Xa Z4 a0:=by kernel_rfl
def ZM (k:Nat) (a0:TPl):Option LPt:=zbp k (Y5 k) (Jf k) a0
theorem zjA (k:Nat):zgO Tryz.prog 46 [.d kPl] kPP 60 (fun x=>ZM k x):=⟨rfl,rfl,fun x y h=>(zkP zO mix (zo.cons (ze.sort zq4) (zo.cons (ze.of rfl (zf2 k)) (zo.cons (ze.of rfl (zbK k)) (zo.nil _)))) Tryz.func46 (N:=k) (an:=zav) rfl rfl (by kernel_rfl)).2.2 x y ((zni k (Y5 k) (Jf k) x).trans h)⟩
theorem zl4 (k:Nat) (Xa:(List LPt)→Option LPt) (Z4:PPt→Option PPt) (a0:TPl):zN [⟨48,[],[],fun _=>none,some (.srt kPP 49 JW)⟩,⟨83,[.d (.sl kLP)],[.sl kPP],fun x=>Xa x,none⟩,⟨61,[.d kPP],[.pair kI kI],fun x=>Z4 x,none⟩] tb k Tryz.f46 zav [.d kPl] [.sl kPP] a0=zbp k Xa Z4 a0:=by kernel_rfl
theorem zhd (k:Nat):zv Tryz.prog 46 [.d kPl] [.sl kPP] (fun x=>ZM k x):=fun x y h=>zh zO mix (zo.cons (ze.sort zq4) (zo.cons (ze.of rfl (zf2 k)) (zo.cons (ze.of rfl (zbK k)) (zo.nil _)))) Tryz.func46 (N:=k) (an:=zav) (by kernel_rfl) x y ((zl4 k (Y5 k) (Jf k) x).trans h)
def zhq:Ann:=uNn uLf (uNn (uNn uLf (uNn (.node none (some [(1,.d kLP),(2,.d kI),(3,.d kI),(4,.box [.d kPl]),(18,.d kLP),(19,.d kI),(20,.d kI)]) uLf uLf) uLf)) (uNn (uNn uLf (uNn (.node none (some [(2,.d kI),(3,.d kI),(4,.box [.d kPl]),(37,.d kLP),(38,.d kI),(39,.d kI)]) uLf uLf) uLf)) uLf))
def zfc (k : Nat) (qw : PPt → PPt → PPt → Option Bool) (Qp : PPt → PPt → PPt → PPt → Option PPt) (jc : LPt → LPt → Int → Int → Option PPt) (a0 : TPl) (a1 : LPt) (a2 : Int) (a3 : Int) : Option Bool :=
 zw (α := (LPt × (Int × (Int × (TPl × (LPt × PPt)))))) (fun (x1, x2, x3, x4, x5, x6, x7) next0 =>
 bif decide (x7 < x6) then
 gd (inb x7 x5.length) <|
 gd (inb x2 x4.1.length) <|
 gd (inb x3 x4.1.length) <|
 bnd (qw ((rdD (0, 0) x4.1 x2).1, (rdD (0, 0) x4.1 x2).2) ((rdD (0, 0) x4.1 x3).1, (rdD (0, 0) x4.1 x3).2) ((rdD (0, 0) x5 x7).1, (rdD (0, 0) x5 x7).2)) fun r8 =>
 bif r8 then
 some false
 else
 next0 (x1, x2, x3, (x4.1, x4.2.1, x4.2.2), x5, x6, w64 (x7 + 1))
 else
 zw (α := (Int × (Int × (TPl × (LPt × PPt))))) (fun (x10, x11, x12, x13, x14, x15) next9 =>
 bif decide (x15 < x14) then
 gd (inb x15 x13.length) <|
 gd (inb x10 x12.1.length) <|
 gd (inb x11 x12.1.length) <|
 gd (inb (rdD (0, 0) x13 x15).1 x12.1.length) <|
 gd (inb (rdD (0, 0) x13 x15).2 x12.1.length) <|
 bnd (Qp ((rdD (0, 0) x12.1 x10).1, (rdD (0, 0) x12.1 x10).2) ((rdD (0, 0) x12.1 x11).1, (rdD (0, 0) x12.1 x11).2) ((rdD (0, 0) x12.1 (rdD (0, 0) x13 x15).1).1, (rdD (0, 0) x12.1 (rdD (0, 0) x13 x15).1).2) ((rdD (0, 0) x12.1 (rdD (0, 0) x13 x15).2).1, (rdD (0, 0) x12.1 (rdD (0, 0) x13 x15).2).2)) fun r16 =>
 bif decide (r16.1 > 1) then
 some false
 else
 next9 (x10, x11, (x12.1, x12.2.1, x12.2.2), x13, x14, w64 (x15 + 1))
 else
 bnd (jc x12.1 x12.2.1 x10 x11) fun r17 =>
 some (decide (r17.1 = 1))) k (x2, x3, (x4.1, x4.2.1, x4.2.2), x1, (x1.length : Int), 0)) k (a1, a2, a3, (a0.1, a0.2.1, a0.2.2), a0.1, (a0.1.length : Int), 0)
theorem zn8 (k:Nat) (qw:PPt→PPt→PPt→Option Bool) (Qp:PPt→PPt→PPt→PPt→Option PPt) (jc:LPt→LPt→Int→Int→Option PPt) (a0:TPl) (a1:LPt) (a2:Int) (a3:Int):zN [⟨84,[.d kPP,.d kPP,.d kPP],[.bool],fun x=>qw (x.1) (x.2.1) (x.2.2),none⟩,⟨85,[.d kPP,.d kPP,.d kPP,.d kPP],[kI,kI],fun x=>Qp (x.1) (x.2.1) (x.2.2.1) (x.2.2.2),none⟩,⟨86,[.d kLP,.d kLP,.d kI,.d kI],[kI,kI],fun x=>jc (x.1) (x.2.1) (x.2.2.1) (x.2.2.2),none⟩] tb k Tryz.f47 zhq [.d kPl,.d kLP,.d kI,.d kI] [.bool] (a0,a1,a2,a3)=zfc k qw Qp jc a0 a1 a2 a3:=by kernel_rfl
def KX (k:Nat) (a0:TPl) (a1:LPt) (a2:Int) (a3:Int):Option Bool:=zfc k (jm k) (Qr k) (jC k) a0 a1 a2 a3
theorem zjo (k:Nat):zv Tryz.prog 47 [.d kPl,.d kLP,.d kI,.d kI] [.bool] (fun x=>KX k (x.1) (x.2.1) (x.2.2.1) (x.2.2.2)):=fun x y h=>zh zO mix (zo.cons (ze.of rfl (Yw k)) (zo.cons (ze.of rfl (zdM k)) (zo.cons (ze.of rfl (XQ k)) (zo.nil _)))) Tryz.func47 (N:=k) (an:=zhq) (by kernel_rfl) x y ((zn8 k (jm k) (Qr k) (jC k) (x.1) (x.2.1) (x.2.2.1) (x.2.2.2)).trans h)
def zgo:Ann:=uNn uLf (uNn uLf (uNn uLf (uNn (uNn uLf (uNn (.node none (some [(1,.box [.d kPl]),(4,.row kPP 60),(14,.d kI),(15,.d kI)]) (uNn uLf (uNn uLf (uNn (uNn (uNn uLf (uNn uLf (uNn (.node none (some [(1,.box [.d kPl]),(4,.row kPP 60),(5,.d kI),(6,.d kI),(14,.d kI),(15,.d kI)]) (uNn uLf (uNn (uNn (uNn uLf (.node (some [(1,.box [.d kPl]),(4,.row kPP 60),(5,.d kI),(6,.d kI),(14,.d kI),(15,.d kI)]) none uLf uLf)) uLf) uLf)) uLf) uLf))) uLf) uLf))) uLf) uLf)) uLf)))
def zds (k : Nat) (zan : TPl → Option Bool) (Qv : TPl → Option LPt) (zbr : TPl → LPt → Int → Int → Option Bool) (a0 : TPl) : Option (LPt × Int) :=
 bnd (zan (a0.1, a0.2.1, a0.2.2)) fun r0 =>
 bif !r0 then
 some ([], 2)
 else
 bnd (Qv (a0.1, a0.2.1, a0.2.2)) fun r1 =>
 zw (α := (TPl × (LPt × PPt))) (fun (x3, x4, x5, x6) next2 =>
 bif decide (x6 < x5) then
 zw (α := (TPl × (LPt × (Int × (Int × PPt))))) (fun (x8, x9, x10, x11, x12, x13) next7 =>
 bif decide (x11 < (x8.1.length : Int)) then
 bnd (zbr (x8.1, x8.2.1, x8.2.2) x9 x10 x11) fun r14 =>
 zx (α := (TPl × (LPt × (Int × (Int × PPt))))) (fun (y15, y16, y17, y18, y19, y20) =>
 next7 ((y15.1, y15.2.1, y15.2.2), y16, y17, w64 (y18 + 1), y19, y20)) fun j21 =>
 bif r14 then
 gd (few (x9.length + 1)) <|
 j21 ((x8.1, x8.2.1, x8.2.2), x9 ++ [(x10, x11)], x10, x11, x12, x13)
 else
 j21 ((x8.1, x8.2.1, x8.2.2), x9, x10, x11, x12, x13)
 else
 next2 ((x8.1, x8.2.1, x8.2.2), x9, x12, w64 (x13 + 1))) k ((x3.1, x3.2.1, x3.2.2), x4, x6, w64 (x6 + 1), x5, x6)
 else
 gd (few x4.length) <|
 some (Y0 JW x4, 0)) k ((a0.1, a0.2.1, a0.2.2), r1, (a0.1.length : Int), 0)
theorem zlH (k:Nat) (zan:TPl→Option Bool) (Qv:TPl→Option LPt) (zbr:TPl→LPt→Int→Int→Option Bool) (a0:TPl):zN [⟨48,[],[],fun _=>none,some (.srt kPP 49 JW)⟩,⟨45,[.d kPl],[.bool],fun x=>zan x,none⟩,⟨46,[],[],fun _=>none,some (.own [.d kPl] kPP 60 fun x=>Qv x)⟩,⟨47,[.d kPl,.d kLP,.d kI,.d kI],[.bool],fun x=>zbr (x.1) (x.2.1) (x.2.2.1) (x.2.2.2),none⟩] tb k Tryz.f13 zgo [.d kPl] [.sl kPP,kI] a0=zds k zan Qv zbr a0:=by kernel_rfl
def ZC (k:Nat) (a0:TPl):Option (LPt×Int):=zds k (J6 k) (ZM k) (KX k) a0
theorem zci (k:Nat):zv Tryz.prog 13 [.d kPl] [.sl kPP,kI] (fun x=>ZC k x):=fun x y h=>zh zO mix (zo.cons (ze.sort zq4) (zo.cons (ze.of rfl (zik k)) (zo.cons (ze.own (zjA k)) (zo.cons (ze.of rfl (zjo k)) (zo.nil _))))) Tryz.func13 (N:=k) (an:=zgo) (by kernel_rfl) x y ((zlH k (J6 k) (ZM k) (KX k) x).trans h)
def zi6:Ann:=uNn uLf (uNn (uNn uLf (uNn (.node none (some [(0,.d kLP),(1,.d kI),(2,.d kI),(3,.d kI),(8,.box [.d (.pair kI kPP)]),(15,.d (.pair kI kPP)),(16,.d kI)]) (uNn uLf (uNn uLf (uNn (uNn (uNn (.node (some [(0,.d kLP),(1,.d kI),(2,.d kI),(3,.d kI),(8,.box [.d (.pair kI kPP)]),(11,.d kI),(15,.d (.pair kI kPP)),(16,.d kI)]) none uLf uLf) (uNn (.node (some [(0,.d kLP),(1,.d kI),(2,.d kI),(3,.d kI),(8,.box [.d (.pair kI kPP)]),(15,.d (.pair kI kPP)),(16,.d kI),(26,.d .bool)]) none uLf uLf) uLf)) uLf) uLf))) uLf) uLf)) (uNn (uNn uLf (uNn (uNn uLf (uNn uLf (uNn uLf (.node (some [(1,.d kI),(2,.d kI),(3,.d kI),(8,.box [.d (.pair kI kPP)])]) none uLf uLf)))) uLf)) (uNn (uNn (.node none (some [(1,.d kI),(2,.d kI),(3,.d kI),(8,.box [.d (.pair kI kPP)])]) (uNn (uNn (.node (some [(1,.d kI),(2,.d kI),(3,.d kI),(8,.box [.d (.pair kI kPP)]),(56,.d .bool)]) none uLf uLf) uLf) uLf) uLf) uLf) uLf)))
def zgS (k : Nat) (zR : PPt → PPt → PPt → Option Int) (a0 : LPt) (a1 : Int) (a2 : Int) (a3 : Int) : Option ((Int × PPt) × Bool) :=
 zw (α := (LPt × (Int × (Int × (Int × ((Int × PPt) × ((Int × PPt) × Int))))))) (fun (x1, x2, x3, x4, x5, x6, x7) next0 =>
 bif decide (x7 < 3) then
 zx (α := (LPt × (Int × (Int × (Int × ((Int × PPt) × (Int × ((Int × PPt) × Int)))))))) (fun (y8, y9, y10, y11, y12, y13, y14, y15) =>
 zx (α := (LPt × (Int × (Int × (Int × ((Int × PPt) × ((Int × PPt) × (Int × Bool)))))))) (fun (y16, y17, y18, y19, y20, y21, y22, y23) =>
 bif y23 then
 some ((0, 0, 0), false)
 else
 next0 (y16, y17, y18, y19, (y20.1, y20.2.1, y20.2.2), (y21.1, y21.2.1, y21.2.2), w64 (y22 + 1))) fun j24 =>
 bif decide (y13 < 0) then
 j24 (y8, y9, y10, y11, (y12.1, y12.2.1, y12.2.2), (y14.1, y14.2.1, y14.2.2), y15, true)
 else
 j24 (y8, y9, y10, y11, (y12.1, y12.2.1, y12.2.2), (y14.1, y14.2.1, y14.2.2), y15, decide (y13 ≥ (y8.length : Int)))) fun j25 =>
 bif decide (x7 = 0) then
 j25 (x1, x2, x3, x4, (x5.1, x5.2.1, x5.2.2), x6.1, (x6.1, x6.2.1, x6.2.2), x7)
 else
 bif decide (x7 = 1) then
 j25 (x1, x2, x3, x4, (x5.1, x5.2.1, x5.2.2), x6.2.1, (x6.1, x6.2.1, x6.2.2), x7)
 else
 bif decide (x7 = 2) then
 j25 (x1, x2, x3, x4, (x5.1, x5.2.1, x5.2.2), x6.2.2, (x6.1, x6.2.1, x6.2.2), x7)
 else
 none
 else
 gd (inb x2 x1.length) <|
 gd (inb x3 x1.length) <|
 gd (inb x4 x1.length) <|
 bnd (zR ((rdD (0, 0) x1 x2).1, (rdD (0, 0) x1 x2).2) ((rdD (0, 0) x1 x3).1, (rdD (0, 0) x1 x3).2) ((rdD (0, 0) x1 x4).1, (rdD (0, 0) x1 x4).2)) fun r26 =>
 bif decide (r26 = 0) then
 some ((0, 0, 0), false)
 else
 zx (α := (Int × (Int × (Int × (Int × PPt))))) (fun (y27, y28, y29, y30, y31, y32) =>
 zw (α := (Int × (Int × (Int × (Int × PPt))))) (fun (x34, x35, x36, x37, x38, x39) next33 =>
 zx (α := (Int × (Int × (Int × ((Int × PPt) × Bool))))) (fun (y40, y41, y42, y43, y44) =>
 bif y44 then
 next33 (y41, y42, y40, y43.1, y43.2.1, y43.2.2)
 else
 some ((y40, y41, y42), true)) fun j45 =>
 bif decide (x34 > x35) then
 j45 (x34, x35, x36, (x37, x38, x39), true)
 else
 j45 (x34, x35, x36, (x37, x38, x39), decide (x34 > x36))) k (y27, y28, y29, y30, y31, y32)) fun j46 =>
 bif decide (r26 = (-1)) then
 j46 (x2, x4, x3, x5.1, x5.2.1, x5.2.2)
 else
 j46 (x2, x3, x4, x5.1, x5.2.1, x5.2.2)) k (a0, a1, a2, a3, (0, 0, 0), (a1, a2, a3), 0)
theorem zoN (k:Nat) (zR:PPt→PPt→PPt→Option Int) (a0:LPt) (a1:Int) (a2:Int) (a3:Int):zN [⟨81,[.d kPP,.d kPP,.d kPP],[kI],fun x=>zR (x.1) (x.2.1) (x.2.2),none⟩] tb k Tryz.f40 zi6 [.d kLP,.d kI,.d kI,.d kI] [.pair kI kPP,.bool] (a0,a1,a2,a3)=zgS k zR a0 a1 a2 a3:=by kernel_rfl
def ZU (k:Nat) (a0:LPt) (a1:Int) (a2:Int) (a3:Int):Option ((Int×PPt)×Bool):=zgS k (qK k) a0 a1 a2 a3
theorem zez (k:Nat):zv Tryz.prog 40 [.d kLP,.d kI,.d kI,.d kI] [.pair kI kPP,.bool] (fun x=>ZU k (x.1) (x.2.1) (x.2.2.1) (x.2.2.2)):=fun x y h=>zh zO mix (zo.cons (ze.of rfl (Qt k)) (zo.nil _)) Tryz.func40 (N:=k) (an:=zi6) (by kernel_rfl) x y ((zoN k (qK k) (x.1) (x.2.1) (x.2.2.1) (x.2.2.2)).trans h)
def zdO:Ann:=uLf
def za8 (k : Nat) (jq : LPt → LPt → (List Int) → Option PPt) (a0 : LPt) (a1 : LPt) (a2 : Int) (a3 : Int) (a4 : Int) : Option PPt :=
 bnd (jq a0 a1 [a2, a3, a4]) fun r0 =>
 some (r0.1, r0.2)
theorem zjz (k:Nat) (jq:LPt→LPt→(List Int)→Option PPt) (a0:LPt) (a1:LPt) (a2:Int) (a3:Int) (a4:Int):zN [⟨91,[.d kLP,.d kLP,.d (.sl kI)],[kI,kI],fun x=>jq (x.1) (x.2.1) (x.2.2),none⟩] tb k Tryz.f54 zdO [.d kLP,.d kLP,.d kI,.d kI,.d kI] [kI,kI] (a0,a1,a2,a3,a4)=za8 k jq a0 a1 a2 a3 a4:=by kernel_rfl
def Zj (k:Nat) (a0:LPt) (a1:LPt) (a2:Int) (a3:Int) (a4:Int):Option PPt:=za8 k (jU k) a0 a1 a2 a3 a4
theorem zgL (k:Nat):zv Tryz.prog 54 [.d kLP,.d kLP,.d kI,.d kI,.d kI] [kI,kI] (fun x=>Zj k (x.1) (x.2.1) (x.2.2.1) (x.2.2.2.1) (x.2.2.2.2)):=fun x y h=>zh zO mix (zo.cons (ze.of rfl (X6 k)) (zo.nil _)) Tryz.func54 (N:=k) (an:=zdO) (by kernel_rfl) x y ((zjz k (jU k) (x.1) (x.2.1) (x.2.2.1) (x.2.2.2.1) (x.2.2.2.2)).trans h)
def zlm:Ann:=uNn uLf (uNn (.node (some [(6,.d .bool)]) none uLf uLf) uLf)
def ziq (k : Nat) (zR : PPt → PPt → PPt → Option Int) (a0 : LPt) (a1 : (Int × PPt)) (a2 : PPt) : Option Bool :=
 zx (α := Bool) (fun y0 =>
 some y0) fun j1 =>
 gd (inb a1.1 a0.length) <|
 gd (inb a1.2.1 a0.length) <|
 bnd (zR ((rdD (0, 0) a0 a1.1).1, (rdD (0, 0) a0 a1.1).2) ((rdD (0, 0) a0 a1.2.1).1, (rdD (0, 0) a0 a1.2.1).2) (a2.1, a2.2)) fun r2 =>
 bif decide (r2 ≥ 0) then
 gd (inb a1.2.1 a0.length) <|
 gd (inb a1.2.2 a0.length) <|
 bnd (zR ((rdD (0, 0) a0 a1.2.1).1, (rdD (0, 0) a0 a1.2.1).2) ((rdD (0, 0) a0 a1.2.2).1, (rdD (0, 0) a0 a1.2.2).2) (a2.1, a2.2)) fun r3 =>
 bif decide (r3 ≥ 0) then
 gd (inb a1.2.2 a0.length) <|
 gd (inb a1.1 a0.length) <|
 bnd (zR ((rdD (0, 0) a0 a1.2.2).1, (rdD (0, 0) a0 a1.2.2).2) ((rdD (0, 0) a0 a1.1).1, (rdD (0, 0) a0 a1.1).2) (a2.1, a2.2)) fun r4 =>
 j1 (decide (r4 ≥ 0))
 else
 j1 false
 else
 j1 false
theorem zpP (k:Nat) (zR:PPt→PPt→PPt→Option Int) (a0:LPt) (a1:(Int×PPt)) (a2:PPt):zN [⟨81,[.d kPP,.d kPP,.d kPP],[kI],fun x=>zR (x.1) (x.2.1) (x.2.2),none⟩] tb k Tryz.f92 zlm [.d kLP,.d (.pair kI kPP),.d kPP] [.bool] (a0,a1,a2)=ziq k zR a0 a1 a2:=by kernel_rfl
def zaE (k:Nat) (a0:LPt) (a1:(Int×PPt)) (a2:PPt):Option Bool:=ziq k (qK k) a0 a1 a2
theorem zlG (k:Nat):zv Tryz.prog 92 [.d kLP,.d (.pair kI kPP),.d kPP] [.bool] (fun x=>zaE k (x.1) (x.2.1) (x.2.2)):=fun x y h=>zh zO mix (zo.cons (ze.of rfl (Qt k)) (zo.nil _)) Tryz.func92 (N:=k) (an:=zlm) (by kernel_rfl) x y ((zpP k (qK k) (x.1) (x.2.1) (x.2.2)).trans h)
def zf9:Ann:=uNn uLf (uNn (uNn uLf (uNn (.node none (some [(0,.d kLP),(3,.box [.d (.pair kI kPP)]),(7,.d kLP),(8,.d kI),(9,.d kI)]) (uNn uLf (uNn uLf (uNn (uNn (uNn uLf (uNn (.node (some [(0,.d kLP),(3,.box [.d (.pair kI kPP)]),(7,.d kLP),(8,.d kI),(9,.d kI),(35,.d .bool)]) none uLf uLf) uLf)) uLf) uLf))) uLf) uLf)) uLf)
def zcU (k : Nat) (zfD : LPt → (Int × PPt) → PPt → Option Bool) (a0 : LPt) (a1 : (Int × PPt)) : Option Bool :=
 zw (α := (LPt × ((Int × PPt) × (LPt × PPt)))) (fun (x1, x2, x3, x4, x5) next0 =>
 bif decide (x5 < x4) then
 gd (inb x5 x3.length) <|
 zx (α := (LPt × ((Int × PPt) × (LPt × (Int × (Int × Bool)))))) (fun (y6, y7, y8, y9, y10, y11) =>
 bif y11 then
 some false
 else
 next0 (y6, (y7.1, y7.2.1, y7.2.2), y8, y9, w64 (y10 + 1))) fun j12 =>
 bif !(decide (x5 = x2.1)) then
 bif !(decide (x5 = x2.2.1)) then
 bif !(decide (x5 = x2.2.2)) then
 bnd (zfD x1 (x2.1, x2.2.1, x2.2.2) ((rdD (0, 0) x3 x5).1, (rdD (0, 0) x3 x5).2)) fun r13 =>
 j12 (x1, (x2.1, x2.2.1, x2.2.2), x3, x4, x5, r13)
 else
 j12 (x1, (x2.1, x2.2.1, x2.2.2), x3, x4, x5, false)
 else
 j12 (x1, (x2.1, x2.2.1, x2.2.2), x3, x4, x5, false)
 else
 j12 (x1, (x2.1, x2.2.1, x2.2.2), x3, x4, x5, false)
 else
 some true) k (a0, (a1.1, a1.2.1, a1.2.2), a0, (a0.length : Int), 0)
theorem zl0 (k:Nat) (zfD:LPt→(Int×PPt)→PPt→Option Bool) (a0:LPt) (a1:(Int×PPt)):zN [⟨92,[.d kLP,.d (.pair kI kPP),.d kPP],[.bool],fun x=>zfD (x.1) (x.2.1) (x.2.2),none⟩] tb k Tryz.f55 zf9 [.d kLP,.d (.pair kI kPP)] [.bool] (a0,a1)=zcU k zfD a0 a1:=by kernel_rfl
def ZG (k:Nat) (a0:LPt) (a1:(Int×PPt)):Option Bool:=zcU k (zaE k) a0 a1
theorem zh8 (k:Nat):zv Tryz.prog 55 [.d kLP,.d (.pair kI kPP)] [.bool] (fun x=>ZG k (x.1) (x.2)):=fun x y h=>zh zO mix (zo.cons (ze.of rfl (zlG k)) (zo.nil _)) Tryz.func55 (N:=k) (an:=zf9) (by kernel_rfl) x y ((zl0 k (zaE k) (x.1) (x.2)).trans h)
def zhJ:Ann:=uNn uLf (uNn uLf (uNn uLf (uNn uLf (uNn (uNn uLf (uNn (.node none (some [(1,.box [.d kPl]),(2,.box [.row kPP 44,.row (.pair kI kPP) 56,.row kPP 60]),(4,.d kLP),(6,.mp kPP .bool),(27,.d kLP),(28,.d kI),(29,.d kI)]) uLf uLf) uLf)) (uNn uLf (uNn (uNn uLf (uNn (.node none (some [(1,.box [.d kPl]),(2,.box [.row kPP 44,.row (.pair kI kPP) 56,.row kPP 60]),(6,.mp kPP .bool),(9,.box [.row kPP 44,.row (.pair kI kPP) 56,.d kLP]),(42,.d kLP),(43,.d kI),(44,.d kI)]) (uNn uLf (uNn uLf (uNn (uNn (uNn uLf (uNn uLf (uNn (.node none (some [(1,.box [.d kPl]),(2,.box [.row kPP 44,.row (.pair kI kPP) 56,.row kPP 60]),(6,.mp kPP .bool),(9,.box [.row kPP 44,.row (.pair kI kPP) 56,.d kLP]),(11,.box [.d kPP]),(12,.d kI),(42,.d kLP),(43,.d kI),(44,.d kI)]) (uNn uLf (uNn (.node (some [(1,.box [.d kPl]),(2,.box [.row kPP 44,.row (.pair kI kPP) 56,.row kPP 60]),(6,.mp kPP .bool),(9,.box [.row kPP 44,.row (.pair kI kPP) 56,.d kLP]),(11,.box [.d kPP]),(12,.d kI),(42,.d kLP),(43,.d kI),(44,.d kI)]) none (uNn (uNn (.node (some [(1,.box [.d kPl]),(2,.box [.row kPP 44,.row (.pair kI kPP) 56,.row kPP 60]),(6,.mp kPP .bool),(9,.box [.row kPP 44,.row (.pair kI kPP) 56,.d kLP]),(11,.box [.d kPP]),(12,.d kI),(42,.d kLP),(43,.d kI),(44,.d kI),(73,.d .bool)]) none uLf uLf) uLf) (uNn uLf (uNn uLf (uNn (.node (some [(1,.box [.d kPl]),(2,.box [.row kPP 44,.row (.pair kI kPP) 56,.row kPP 60]),(6,.mp kPP .bool),(9,.box [.row kPP 44,.row (.pair kI kPP) 56,.d kLP]),(11,.box [.d kPP]),(12,.d kI),(13,.box [.d (.pair kI kPP)]),(42,.d kLP),(43,.d kI),(44,.d kI),(108,.d .bool)]) none uLf uLf) (.node (some [(1,.box [.d kPl]),(2,.box [.row kPP 44,.row (.pair kI kPP) 56,.row kPP 60]),(6,.mp kPP .bool),(9,.box [.row kPP 44,.row (.pair kI kPP) 56,.d kLP]),(11,.box [.d kPP]),(12,.d kI),(42,.d kLP),(43,.d kI),(44,.d kI)]) none uLf uLf))))) uLf) uLf)) uLf) uLf))) uLf) uLf))) uLf) uLf)) uLf))))))
def zfk (k : Nat) (ZB : TPl → Option (LPt × Int)) (Qv : TPl → Option LPt) (Q5 : LPt → Int → Int → Int → Option ((Int × PPt) × Bool)) (Yy : LPt → LPt → Int → Int → Int → Option PPt) (zal : LPt → (Int × PPt) → Option Bool) (a0 : TPl) : Option (TMs × Int) :=
 bnd (ZB (a0.1, a0.2.1, a0.2.2)) fun r0 =>
 bif !(decide (r0.2 = 0)) then
 some (([], [], []), r0.2)
 else
 zw (α := (TPl × (TMs × (LPt × ((List (PPt × Bool)) × (LPt × PPt)))))) (fun (x2, x3, x4, x5, x6, x7, x8) next1 =>
 bif decide (x8 < x7) then
 gd (inb x8 x6.length) <|
 gd (!(hsM (.pair (.int .i64) (.int .i64)) .bool x5 ((rdD (0, 0) x6 x8).1, (rdD (0, 0) x6 x8).2))) <|
 next1 ((x2.1, x2.2.1, x2.2.2), (x3.1, x3.2.1, x3.2.2), x4, adM (.pair (.int .i64) (.int .i64)) .bool x5 ((rdD (0, 0) x6 x8).1, (rdD (0, 0) x6 x8).2) true, x6, x7, w64 (x8 + 1))
 else
 gd (decide (0 < (x2.1.length : Int))) <|
 gd (few x2.1.length) <|
 bnd (Qv (x2.1, x2.2.1, x2.2.2)) fun r9 =>
 zw (α := (TPl × (TMs × ((List (PPt × Bool)) × (TMs × (LPt × PPt)))))) (fun (x11, x12, x13, x14, x15, x16, x17) next10 =>
 bif decide (x17 < x16) then
 gd (inb x17 x15.length) <|
 zw (α := (TPl × (TMs × ((List (PPt × Bool)) × (TMs × (PPt × (Int × (LPt × PPt)))))))) (fun (x19, x20, x21, x22, x23, x24, x25, x26, x27) next18 =>
 bif decide (x24 < (x19.1.length : Int)) then
 zx (α := (TPl × (TMs × ((List (PPt × Bool)) × (TMs × (PPt × (Int × (LPt × PPt)))))))) (fun (y28, y29, y30, y31, y32, y33, y34, y35, y36) =>
 next18 ((y28.1, y28.2.1, y28.2.2), (y29.1, y29.2.1, y29.2.2), y30, (y31.1, y31.2.1, y31.2.2), (y32.1, y32.2), w64 (y33 + 1), y34, y35, y36)) fun j37 =>
 zx (α := (TPl × (TMs × ((List (PPt × Bool)) × (TMs × (PPt × (Int × (LPt × (Int × (Int × Bool)))))))))) (fun (y38, y39, y40, y41, y42, y43, y44, y45, y46, y47) =>
 bif y47 then
 j37 ((y38.1, y38.2.1, y38.2.2), (y39.1, y39.2.1, y39.2.2), y40, (y41.1, y41.2.1, y41.2.2), (y42.1, y42.2), y43, y44, y45, y46)
 else
 bnd (Q5 y38.1 y42.1 y42.2 y43) fun r48 =>
 bnd (Yy y38.1 y38.2.1 y42.1 y42.2 y43) fun r49 =>
 zx (α := (TPl × (TMs × ((List (PPt × Bool)) × (TMs × (PPt × (Int × ((Int × PPt) × (LPt × (Int × (Int × Bool))))))))))) (fun (y50, y51, y52, y53, y54, y55, y56, y57, y58, y59, y60) =>
 zx (α := (TPl × (TMs × ((List (PPt × Bool)) × (TMs × (PPt × (Int × (LPt × PPt)))))))) (fun (y61, y62, y63, y64, y65, y66, y67, y68, y69) =>
 j37 ((y61.1, y61.2.1, y61.2.2), (y62.1, y62.2.1, y62.2.2), y63, (y64.1, y64.2.1, y64.2.2), (y65.1, y65.2), y66, y67, y68, y69)) fun j70 =>
 bif y60 then
 gd (few (y53.2.1.length + 1)) <|
 j70 ((y50.1, y50.2.1, y50.2.2), (y51.1, y51.2.1, y51.2.2), y52, (y53.1, y53.2.1 ++ [(y56.1, y56.2.1, y56.2.2)], y53.2.2), (y54.1, y54.2), y55, y57, y58, y59)
 else
 j70 ((y50.1, y50.2.1, y50.2.2), (y51.1, y51.2.1, y51.2.2), y52, (y53.1, y53.2.1, y53.2.2), (y54.1, y54.2), y55, y57, y58, y59)) fun j71 =>
 bif r48.2 then
 bif decide (r49.1 = 1) then
 bnd (zal y38.1 (r48.1.1, r48.1.2.1, r48.1.2.2)) fun r72 =>
 j71 ((y38.1, y38.2.1, y38.2.2), (y39.1, y39.2.1, y39.2.2), y40, (y41.1, y41.2.1, y41.2.2), (y42.1, y42.2), y43, (r48.1.1, r48.1.2.1, r48.1.2.2), y44, y45, y46, r72)
 else
 j71 ((y38.1, y38.2.1, y38.2.2), (y39.1, y39.2.1, y39.2.2), y40, (y41.1, y41.2.1, y41.2.2), (y42.1, y42.2), y43, (r48.1.1, r48.1.2.1, r48.1.2.2), y44, y45, y46, false)
 else
 j71 ((y38.1, y38.2.1, y38.2.2), (y39.1, y39.2.1, y39.2.2), y40, (y41.1, y41.2.1, y41.2.2), (y42.1, y42.2), y43, (r48.1.1, r48.1.2.1, r48.1.2.2), y44, y45, y46, false)) fun j73 =>
 bif !(toT Bool (lkM (.pair (.int .i64) (.int .i64)) .bool x21 (x23.1, x24))) then
 j73 ((x19.1, x19.2.1, x19.2.2), (x20.1, x20.2.1, x20.2.2), x21, (x22.1, x22.2.1, x22.2.2), (x23.1, x23.2), x24, x25, x26, x27, true)
 else
 j73 ((x19.1, x19.2.1, x19.2.2), (x20.1, x20.2.1, x20.2.2), x21, (x22.1, x22.2.1, x22.2.2), (x23.1, x23.2), x24, x25, x26, x27, !(toT Bool (lkM (.pair (.int .i64) (.int .i64)) .bool x21 (x23.2, x24))))
 else
 next10 ((x19.1, x19.2.1, x19.2.2), (x20.1, x20.2.1, x20.2.2), x21, (x22.1, x22.2.1, x22.2.2), x25, x26, w64 (x27 + 1))) k ((x11.1, x11.2.1, x11.2.2), (x12.1, x12.2.1, x12.2.2), x13, (x14.1, x14.2.1, x14.2.2), ((rdD (0, 0) x15 x17).1, (rdD (0, 0) x15 x17).2), w64 ((rdD (0, 0) x15 x17).2 + 1), x15, x16, x17)
 else
 gd (few x14.2.1.length) <|
 some ((x14.1, Y0 KZ x14.2.1, x14.2.2), 0)) k ((x2.1, x2.2.1, x2.2.2), (x3.1, x3.2.1, x3.2.2), x5, (x2.1, [], r9), x4, (x4.length : Int), 0)) k ((a0.1, a0.2.1, a0.2.2), ([], [], []), r0.1, [], r0.1, (r0.1.length : Int), 0)
theorem zna (k:Nat) (ZB:TPl→Option (LPt×Int)) (Qv:TPl→Option LPt) (Q5:LPt→Int→Int→Int→Option ((Int×PPt)×Bool)) (Yy:LPt→LPt→Int→Int→Int→Option PPt) (zal:LPt→(Int×PPt)→Option Bool) (a0:TPl):zN [⟨56,[],[],fun _=>none,some (.srt (.pair kI kPP) 57 KZ)⟩,⟨13,[.d kPl],[.sl kPP,kI],fun x=>ZB x,none⟩,⟨46,[.d kPl],[.sl kPP],fun x=>Qv x,none⟩,⟨40,[.d kLP,.d kI,.d kI,.d kI],[.pair kI kPP,.bool],fun x=>Q5 (x.1) (x.2.1) (x.2.2.1) (x.2.2.2),none⟩,⟨54,[.d kLP,.d kLP,.d kI,.d kI,.d kI],[kI,kI],fun x=>Yy (x.1) (x.2.1) (x.2.2.1) (x.2.2.2.1) (x.2.2.2.2),none⟩,⟨55,[.d kLP,.d (.pair kI kPP)],[.bool],fun x=>zal (x.1) (x.2),none⟩] tbm k Tryz.f15 zhJ [.d kPl] [.pair kLP (.pair (.sl (.pair kI kPP)) kLP),kI] a0=zfk k ZB Qv Q5 Yy zal a0:=by kernel_rfl
def ZN (k:Nat) (a0:TPl):Option (TMs×Int):=zfk k (ZC k) (ZM k) (ZU k) (Zj k) (ZG k) a0
theorem zdH (k:Nat):zv Tryz.prog 15 [.d kPl] [.pair kLP (.pair (.sl (.pair kI kPP)) kLP),kI] (fun x=>ZN k x):=fun x y h=>zh zzo mix (zo.cons (ze.sort zzD) (zo.cons (ze.of rfl (zci k)) (zo.cons (ze.of rfl (zhd k)) (zo.cons (ze.of rfl (zez k)) (zo.cons (ze.of rfl (zgL k)) (zo.cons (ze.of rfl (zh8 k)) (zo.nil _))))))) Tryz.func15 (N:=k) (an:=zhJ) (by kernel_rfl) x y ((zna k (ZC k) (ZM k) (ZU k) (Zj k) (ZG k) x).trans h)
end
end Go.Proofs.YtpkkcjmblocjdaaGreat.AM
