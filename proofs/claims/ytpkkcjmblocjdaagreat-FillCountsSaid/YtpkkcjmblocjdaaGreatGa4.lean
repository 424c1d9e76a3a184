/- The functions, by their texts: written by a program. -/
import Derived.Test.YtpkkcjmblocjdaaGreatGa3
import Derived.Test.YtpkkcjmblocjdaaGreatCln
set_option linter.unusedVariables false
set_option linter.unusedSimpArgs false
set_option linter.unusedSectionVars false
set_option maxRecDepth 100000
namespace Go.Proofs.YtpkkcjmblocjdaaGreat.AM
open Go.RowKit Go.Proofs
noncomputable section
def zbH:Ann:=uNn uLf (uNn uLf (uNn uLf (uNn (uNn uLf (uNn (.node none (some [(0,.d kLP),(1,.d kLP),(8,.d kI),(9,.box [.d kPP]),(16,.d (.sl kI)),(17,.d kI),(18,.d kI)]) (uNn uLf (uNn uLf (uNn (uNn (uNn uLf (uNn (uNn (.node (some [(0,.d kLP),(1,.d kLP),(8,.d kI),(9,.box [.d kPP]),(11,.d kI),(16,.d (.sl kI)),(17,.d kI),(18,.d kI),(38,.d .bool)]) none uLf uLf) uLf) uLf)) uLf) uLf))) uLf) uLf)) (uNn uLf (uNn (uNn (.node (some [(9,.box [.d kPP]),(12,.d (.sl (.pair kPP kPP))),(72,.d .bool)]) none uLf uLf) uLf) uLf)))))
def Xy (k : Nat) (zH : LPt → Option Bool) (YW : LPt → LPt → (Int × Unit) → Option ((List (PPt × PPt)) × Bool)) (jD : (List (PPt × PPt)) → PPt → Option Int) (a0 : LPt) (a1 : LPt) (a2 : (List Int)) : Option PPt :=
 zA (α := (LPt × (LPt × (Int × (PPt × ((List Int) × PPt)))))) (fun (x1, x2, x3, x4, x5, x6, x7) next0 =>
 bif decide (x7 < x6) then
 gd (inb x7 x5.length) <|
 zz (α := (LPt × (LPt × (Int × (PPt × (Int × ((List Int) × (Int × (Int × Bool))))))))) (fun (y8, y9, y10, y11, y12, y13, y14, y15, y16) =>
 bif y16 then
 some (0, 2)
 else
 gd (inb y12 y8.length) <|
 gd (inb y12 y8.length) <|
 next0 (y8, y9, y10, (w64 (y11.1 + (rdD (0, 0) y8 y12).1), w64 (y11.2 + (rdD (0, 0) y8 y12).2)), y13, y14, w64 (y15 + 1))) fun j17 =>
 bif decide ((rdD 0 x5 x7) < 0) then
 j17 (x1, x2, x3, (x4.1, x4.2), rdD 0 x5 x7, x5, x6, x7, true)
 else
 bif decide ((rdD 0 x5 x7) ≥ (x1.length : Int)) then
 j17 (x1, x2, x3, (x4.1, x4.2), rdD 0 x5 x7, x5, x6, x7, true)
 else
 gd (inb (rdD 0 x5 x7) x1.length) <|
 bnd (zH [((rdD (0, 0) x1 (rdD 0 x5 x7)).1, (rdD (0, 0) x1 (rdD 0 x5 x7)).2)]) fun r18 =>
 j17 (x1, x2, x3, (x4.1, x4.2), rdD 0 x5 x7, x5, x6, x7, !r18)
 else
 bnd (YW x1 x2 (x3, ())) fun r19 =>
 zz (α := (PPt × ((List (PPt × PPt)) × Bool))) (fun (y20, y21, y22) =>
 bif y22 then
 some (0, 2)
 else
 bnd (jD y21 (y20.1, y20.2)) fun r23 =>
 some (r23, 0)) fun j24 =>
 bif !r19.2 then
 j24 ((x4.1, x4.2), r19.1, true)
 else
 bnd (zH [(x4.1, x4.2)]) fun r25 =>
 j24 ((x4.1, x4.2), r19.1, !r25)) k (a0, a1, (a2.length : Int), (0, 0), a2, (a2.length : Int), 0)
theorem zhO (k:Nat) (zH:LPt→Option Bool) (YW:LPt→LPt→(Int×Unit)→Option ((List (PPt×PPt))×Bool)) (jD:(List (PPt×PPt))→PPt→Option Int) (a0:LPt) (a1:LPt) (a2:(List Int)):zN [⟨108,[.d kLP],[.bool],fun x=>zH x,none⟩,⟨132,[.d kLP,.d kLP,.fn 133 [(.d kI)] []],[.sl (.pair kPP kPP),.bool],fun x=>YW (x.1) (x.2.1) (x.2.2),none⟩,⟨134,[.d (.sl (.pair kPP kPP)),.d kPP],[kI],fun x=>jD (x.1) (x.2),none⟩] tb k Tryz.f91 zbH [.d kLP,.d kLP,.d (.sl kI)] [kI,kI] (a0,a1,a2)=Xy k zH YW jD a0 a1 a2:=by kernel_rfl
def jP (k:Nat) (a0:LPt) (a1:LPt) (a2:(List Int)):Option PPt:=Xy k (qt k) (Kl k) (ZN k) a0 a1 a2
theorem XJ (k:Nat):zv Tryz.prog 91 [.d kLP,.d kLP,.d (.sl kI)] [kI,kI] (fun x=>jP k (x.1) (x.2.1) (x.2.2)):=fun x y h=>zg zO mix (zp.cons (ze.of rfl (jO k)) (zp.cons (ze.of rfl (zgF k)) (zp.cons (ze.of rfl (zaJ k)) (zp.nil _)))) Tryz.func91 (N:=k) (an:=zbH) (by kernel_rfl) x y ((zhO k (qt k) (Kl k) (ZN k) (x.1) (x.2.1) (x.2.2)).trans h)
def zaV:Ann:=uLf
def YG (k : Nat) (jk : LPt → LPt → (List Int) → Option PPt) (a0 : LPt) (a1 : LPt) (a2 : Int) (a3 : Int) : Option PPt :=
 bnd (jk a0 a1 [a2, a3]) fun r0 =>
 some (r0.1, r0.2)
theorem zhk (k:Nat) (jk:LPt→LPt→(List Int)→Option PPt) (a0:LPt) (a1:LPt) (a2:Int) (a3:Int):zN [⟨91,[.d kLP,.d kLP,.d (.sl kI)],[kI,kI],fun x=>jk (x.1) (x.2.1) (x.2.2),none⟩] tb k Tryz.f86 zaV [.d kLP,.d kLP,.d kI,.d kI] [kI,kI] (a0,a1,a2,a3)=YG k jk a0 a1 a2 a3:=by kernel_rfl
def jx (k:Nat) (a0:LPt) (a1:LPt) (a2:Int) (a3:Int):Option PPt:=YG k (jP k) a0 a1 a2 a3
theorem Xo (k:Nat):zv Tryz.prog 86 [.d kLP,.d kLP,.d kI,.d kI] [kI,kI] (fun x=>jx k (x.1) (x.2.1) (x.2.2.1) (x.2.2.2)):=fun x y h=>zg zO mix (zp.cons (ze.of rfl (XJ k)) (zp.nil _)) Tryz.func86 (N:=k) (an:=zaV) (by kernel_rfl) x y ((zhk k (jP k) (x.1) (x.2.1) (x.2.2.1) (x.2.2.2)).trans h)
def zgt:Ann:=uNn uLf (uNn (uNn uLf (uNn (.node none (some [(1,.box [.d kPl]),(2,.box [.d (.pair kI kPP)]),(8,.d kLP),(9,.d kI),(10,.d kI)]) uLf uLf) uLf)) uLf)
def zeF (k : Nat) (ja : LPt → LPt → Int → Int → Option PPt) (a0 : TPl) : Option (Int × PPt) :=
 zA (α := (TPl × ((Int × PPt) × (LPt × PPt)))) (fun (x1, x2, x3, x4, x5) next0 =>
 bif decide (x5 < x4) then
 gd (inb x5 x3.length) <|
 bnd (ja x1.1 x1.2.1 (rdD (0, 0) x3 x5).1 (rdD (0, 0) x3 x5).2) fun r6 =>
 bif !(decide (r6.1 = 1)) then
 some (7, x5, 0)
 else
 next0 ((x1.1, x1.2.1, x1.2.2), (x2.1, x2.2.1, x2.2.2), x3, x4, w64 (x5 + 1))
 else
 some (0, 0, 0)) k ((a0.1, a0.2.1, a0.2.2), (0, 0, 0), a0.2.2, (a0.2.2.length : Int), 0)
theorem zml (k:Nat) (ja:LPt→LPt→Int→Int→Option PPt) (a0:TPl):zN [⟨86,[.d kLP,.d kLP,.d kI,.d kI],[kI,kI],fun x=>ja (x.1) (x.2.1) (x.2.2.1) (x.2.2.2),none⟩] tb k Tryz.f116 zgt [.d kPl] [.pair kI kPP] a0=zeF k ja a0:=by kernel_rfl
def Y5 (k:Nat) (a0:TPl):Option (Int×PPt):=zeF k (jx k) a0
theorem ziH (k:Nat):zv Tryz.prog 116 [.d kPl] [.pair kI kPP] (fun x=>Y5 k x):=fun x y h=>zg zO mix (zp.cons (ze.of rfl (Xo k)) (zp.nil _)) Tryz.func116 (N:=k) (an:=zgt) (by kernel_rfl) x y ((zml k (jx k) x).trans h)
def zd1:Ann:=uLf
def Kn (k : Nat) (a0 : PPt) : Option PPt :=
 some (a0.1, a0.2)
theorem zjt (k:Nat) (a0:PPt):zN [] tb k Tryz.f173 zd1 [.d kPP] [.pair kI kI] a0=Kn k a0:=by kernel_rfl
theorem zgu (k:Nat):zv Tryz.prog 173 [.d kPP] [.pair kI kI] (fun x=>Kn k x):=fun x y h=>zg zO mix (zp.nil _) Tryz.func173 (N:=k) (an:=zd1) (by kernel_rfl) x y ((zjt k x).trans h)
def zb5:Ann:=uNn uLf (uNn uLf (uNn (uNn uLf (uNn (.node none (some [(0,.d kLP),(2,.fn 173 [] []),(8,.row (.pair kPP kPP) 177),(13,.d kLP),(14,.d kI),(15,.d kI)]) (uNn uLf (uNn uLf (uNn (uNn (uNn uLf (uNn (uNn (.node (some [(0,.d kLP),(2,.fn 173 [] []),(8,.row (.pair kPP kPP) 177),(10,.box [.d kPP]),(13,.d kLP),(14,.d kI),(15,.d kI),(68,.d .bool)]) none uLf uLf) uLf) uLf)) uLf) uLf))) uLf) uLf)) uLf))
def Xz (k : Nat) (zH : LPt → Option Bool) (J7 : PPt → Option PPt) (a0 : LPt) (a1 : LPt) (a2 : (Unit × Unit)) : Option ((List (PPt × PPt)) × Bool) :=
 zA (α := (LPt × ((Unit × Unit) × ((List (PPt × PPt)) × (LPt × PPt))))) (fun (x1, x2, x3, x4, x5, x6) next0 =>
 bif decide (x6 < x5) then
 gd (inb x6 x4.length) <|
 zz (α := (LPt × ((Unit × Unit) × ((List (PPt × PPt)) × (PPt × (LPt × (Int × (Int × Bool)))))))) (fun (y7, y8, y9, y10, y11, y12, y13, y14) =>
 bif y14 then
 some ([], false)
 else
 gd (inb y10.1 y7.length) <|
 bnd (J7 ((rdD (0, 0) y7 y10.1).1, (rdD (0, 0) y7 y10.1).2)) fun r15 =>
 gd (inb y10.2 y7.length) <|
 bnd (J7 ((rdD (0, 0) y7 y10.2).1, (rdD (0, 0) y7 y10.2).2)) fun r16 =>
 bnd (zH [(r15.1, r15.2), (r16.1, r16.2)]) fun r17 =>
 bif !r17 then
 some ([], false)
 else
 gd (few (y9.length + 1)) <|
 next0 (y7, ((), ()), y9 ++ [((r15.1, r15.2), r16.1, r16.2)], y11, y12, w64 (y13 + 1))) fun j18 =>
 bif decide ((rdD (0, 0) x4 x6).1 < 0) then
 j18 (x1, ((), ()), x3, ((rdD (0, 0) x4 x6).1, (rdD (0, 0) x4 x6).2), x4, x5, x6, true)
 else
 bif decide ((rdD (0, 0) x4 x6).1 ≥ (x1.length : Int)) then
 j18 (x1, ((), ()), x3, ((rdD (0, 0) x4 x6).1, (rdD (0, 0) x4 x6).2), x4, x5, x6, true)
 else
 bif decide ((rdD (0, 0) x4 x6).2 < 0) then
 j18 (x1, ((), ()), x3, ((rdD (0, 0) x4 x6).1, (rdD (0, 0) x4 x6).2), x4, x5, x6, true)
 else
 bif decide ((rdD (0, 0) x4 x6).2 ≥ (x1.length : Int)) then
 j18 (x1, ((), ()), x3, ((rdD (0, 0) x4 x6).1, (rdD (0, 0) x4 x6).2), x4, x5, x6, true)
 else
 gd (inb (rdD (0, 0) x4 x6).1 x1.length) <|
 gd (inb (rdD (0, 0) x4 x6).2 x1.length) <|
 bif (decide ((rdD (0, 0) x1 (rdD (0, 0) x4 x6).1).1 = (rdD (0, 0) x1 (rdD (0, 0) x4 x6).2).1)) && (decide ((rdD (0, 0) x1 (rdD (0, 0) x4 x6).1).2 = (rdD (0, 0) x1 (rdD (0, 0) x4 x6).2).2)) then
 j18 (x1, ((), ()), x3, ((rdD (0, 0) x4 x6).1, (rdD (0, 0) x4 x6).2), x4, x5, x6, true)
 else
 gd (inb (rdD (0, 0) x4 x6).1 x1.length) <|
 gd (inb (rdD (0, 0) x4 x6).2 x1.length) <|
 bnd (zH [((rdD (0, 0) x1 (rdD (0, 0) x4 x6).1).1, (rdD (0, 0) x1 (rdD (0, 0) x4 x6).1).2), ((rdD (0, 0) x1 (rdD (0, 0) x4 x6).2).1, (rdD (0, 0) x1 (rdD (0, 0) x4 x6).2).2)]) fun r19 =>
 j18 (x1, ((), ()), x3, ((rdD (0, 0) x4 x6).1, (rdD (0, 0) x4 x6).2), x4, x5, x6, !r19)
 else
 some (x3, true)) k (a0, ((), ()), [], a1, (a1.length : Int), 0)
theorem zhq (k:Nat) (zH:LPt→Option Bool) (J7:PPt→Option PPt) (a0:LPt) (a1:LPt) (a2:(Unit×Unit)):zN [⟨108,[.d kLP],[.bool],fun x=>zH x,none⟩,⟨173,[.d kPP],[.pair kI kI],fun x=>J7 x,none⟩] tb k Tryz.f132 zb5 [.d kLP,.d kLP,.fn 173 [] []] [.sl (.pair kPP kPP),.bool] (a0,a1,a2)=Xz k zH J7 a0 a1 a2:=by kernel_rfl
def QR (k:Nat) (a0:LPt) (a1:LPt) (a2:(Unit×Unit)):Option ((List (PPt×PPt))×Bool):=Xz k (qt k) (Kn k) a0 a1 a2
theorem zfj (k:Nat):zv Tryz.prog 132 [.d kLP,.d kLP,.fn 173 [] []] [.sl (.pair kPP kPP),.bool] (fun x=>QR k (x.1) (x.2.1) (x.2.2)):=fun x y h=>zg zO mix (zp.cons (ze.of rfl (jO k)) (zp.cons (ze.of rfl (zgu k)) (zp.nil _))) Tryz.func132 (N:=k) (an:=zb5) (by kernel_rfl) x y ((zhq k (qt k) (Kn k) (x.1) (x.2.1) (x.2.2)).trans h)
def zgk:Ann:=uNn uLf (uNn uLf (uNn (uNn (.node (some [(5,.box [.d kPP]),(8,.d (.sl (.pair kPP kPP))),(23,.d .bool)]) none uLf uLf) uLf) uLf))
def zdZ (k : Nat) (Kt : LPt → LPt → (Unit × Unit) → Option ((List (PPt × PPt)) × Bool)) (zH : LPt → Option Bool) (jD : (List (PPt × PPt)) → PPt → Option Int) (a0 : LPt) (a1 : LPt) (a2 : PPt) : Option PPt :=
 bnd (Kt a0 a1 ((), ())) fun r0 =>
 zz (α := (PPt × ((List (PPt × PPt)) × Bool))) (fun (y1, y2, y3) =>
 bif y3 then
 some (0, 2)
 else
 bnd (jD y2 (y1.1, y1.2)) fun r4 =>
 some (r4, 0)) fun j5 =>
 bif !r0.2 then
 j5 ((a2.1, a2.2), r0.1, true)
 else
 bnd (zH [(a2.1, a2.2)]) fun r6 =>
 j5 ((a2.1, a2.2), r0.1, !r6)
theorem znd (k:Nat) (Kt:LPt→LPt→(Unit×Unit)→Option ((List (PPt×PPt))×Bool)) (zH:LPt→Option Bool) (jD:(List (PPt×PPt))→PPt→Option Int) (a0:LPt) (a1:LPt) (a2:PPt):zN [⟨132,[.d kLP,.d kLP,.fn 173 [] []],[.sl (.pair kPP kPP),.bool],fun x=>Kt (x.1) (x.2.1) (x.2.2),none⟩,⟨108,[.d kLP],[.bool],fun x=>zH x,none⟩,⟨134,[.d (.sl (.pair kPP kPP)),.d kPP],[kI],fun x=>jD (x.1) (x.2),none⟩] tb k Tryz.f153 zgk [.d kLP,.d kLP,.d kPP] [kI,kI] (a0,a1,a2)=zdZ k Kt zH jD a0 a1 a2:=by kernel_rfl
def KD (k:Nat) (a0:LPt) (a1:LPt) (a2:PPt):Option PPt:=zdZ k (QR k) (qt k) (ZN k) a0 a1 a2
theorem ziO (k:Nat):zv Tryz.prog 153 [.d kLP,.d kLP,.d kPP] [kI,kI] (fun x=>KD k (x.1) (x.2.1) (x.2.2)):=fun x y h=>zg zO mix (zp.cons (ze.of rfl (zfj k)) (zp.cons (ze.of rfl (jO k)) (zp.cons (ze.of rfl (zaJ k)) (zp.nil _)))) Tryz.func153 (N:=k) (an:=zgk) (by kernel_rfl) x y ((znd k (QR k) (qt k) (ZN k) (x.1) (x.2.1) (x.2.2)).trans h)
def zdG:Ann:=uNn uLf (uNn uLf (uNn (uNn uLf (uNn (.node none (some [(1,.box [.d kPl]),(2,.box [.d (.pair kI kPP)]),(18,.d (.sl kI)),(19,.d kI),(20,.d kI)]) (uNn uLf (uNn uLf (uNn (uNn (uNn uLf (uNn uLf (uNn (.node (some [(1,.box [.d kPl]),(2,.box [.d (.pair kI kPP)]),(5,.d kI),(18,.d (.sl kI)),(19,.d kI),(20,.d kI),(43,.d .bool)]) none uLf uLf) uLf))) uLf) uLf))) uLf) uLf)) uLf))
def zbb (k : Nat) (qC : TPl → Option LPt) (jm : Int → LPt → Option ((List Int) × Int)) (zaR : LPt → LPt → PPt → Option PPt) (a0 : TPl) : Option (Int × PPt) :=
 bnd (qC (a0.1, a0.2.1, a0.2.2)) fun r0 =>
 bnd (jm (a0.1.length : Int) r0) fun r1 =>
 zA (α := (TPl × ((Int × PPt) × ((List Int) × PPt)))) (fun (x3, x4, x5, x6, x7) next2 =>
 bif decide (x7 < x6) then
 gd (inb x7 x5.length) <|
 gd (inb x7 x3.1.length) <|
 bnd (zaR x3.1 x3.2.1 ((rdD (0, 0) x3.1 x7).1, (rdD (0, 0) x3.1 x7).2)) fun r8 =>
 zz (α := (TPl × ((Int × PPt) × (Int × ((List Int) × (Int × (Int × Bool))))))) (fun (y9, y10, y11, y12, y13, y14, y15) =>
 bif y15 then
 some (8, y11, 0)
 else
 next2 ((y9.1, y9.2.1, y9.2.2), (y10.1, y10.2.1, y10.2.2), y12, y13, w64 (y14 + 1))) fun j16 =>
 bif decide ((rdD 0 x5 x7) = 0) then
 j16 ((x3.1, x3.2.1, x3.2.2), (x4.1, x4.2.1, x4.2.2), x7, x5, x6, x7, !(decide (r8.1 = 1)))
 else
 j16 ((x3.1, x3.2.1, x3.2.2), (x4.1, x4.2.1, x4.2.2), x7, x5, x6, x7, false)
 else
 some (0, 0, 0)) k ((a0.1, a0.2.1, a0.2.2), (0, 0, 0), r1.1, (r1.1.length : Int), 0)
theorem zjp (k:Nat) (qC:TPl→Option LPt) (jm:Int→LPt→Option ((List Int)×Int)) (zaR:LPt→LPt→PPt→Option PPt) (a0:TPl):zN [⟨148,[.d kPl],[.sl kPP],fun x=>qC x,none⟩,⟨152,[.d kI,.d kLP],[.sl kI,kI],fun x=>jm (x.1) (x.2),none⟩,⟨153,[.d kLP,.d kLP,.d kPP],[kI,kI],fun x=>zaR (x.1) (x.2.1) (x.2.2),none⟩] tb k Tryz.f117 zdG [.d kPl] [.pair kI kPP] a0=zbb k qC jm zaR a0:=by kernel_rfl
def J6 (k:Nat) (a0:TPl):Option (Int×PPt):=zbb k (qS k) (jM k) (KD k) a0
theorem zgx (k:Nat):zv Tryz.prog 117 [.d kPl] [.pair kI kPP] (fun x=>J6 k x):=fun x y h=>zg zO mix (zp.cons (ze.of rfl (Ks k)) (zp.cons (ze.of rfl (XD k)) (zp.cons (ze.of rfl (ziO k)) (zp.nil _)))) Tryz.func117 (N:=k) (an:=zdG) (by kernel_rfl) x y ((zjp k (qS k) (jM k) (KD k) x).trans h)
def zdO:Ann:=uNn uLf (uNn uLf (uNn (uNn uLf (uNn (.node none (some [(1,.box [.d kPl]),(2,.box [.d (.pair kI kPP)]),(14,.con [111,112,113,114,115,116,117]),(15,.d kI)]) (uNn uLf (uNn uLf (uNn (uNn (uNn uLf (uNn (.node (some [(1,.box [.d kPl]),(2,.box [.d (.pair kI kPP)]),(7,.box [.d (.pair kI kPP)]),(14,.con [111,112,113,114,115,116,117]),(15,.d kI)]) none uLf uLf) uLf)) uLf) uLf))) uLf) uLf)) uLf))
def zbu (k : Nat) (YV : TPl → Option Int) (YX : TPl → Option (Int × PPt)) (Y3 : TPl → Option (Int × PPt)) (Y1 : TPl → Option (Int × PPt)) (Yd : TPl → Option (Int × PPt)) (X2 : TPl → Option (Int × PPt)) (zaX : TPl → Option (Int × PPt)) (Y2 : TPl → Option (Int × PPt)) (a0 : TPl) : Option ((Int × PPt) × Int) :=
 bnd (YV (a0.1, a0.2.1, a0.2.2)) fun r0 =>
 bif !(decide (r0 = 0)) then
 some ((0, 0, 0), r0)
 else
 zA (α := (TPl × ((Int × PPt) × (Unit × Int)))) (fun (x2, x3, x4, x5) next1 =>
 bif decide (x5 < 7) then
 bif decide (x5 = 0) then
 zz (α := (TPl × ((Int × PPt) × ((Int × PPt) × (Unit × Int))))) (fun (y6, y7, y8, y9, y10) =>
 bif !(decide (y8.1 = 0)) then
 some ((y8.1, y8.2.1, y8.2.2), 0)
 else
 next1 ((y6.1, y6.2.1, y6.2.2), (y7.1, y7.2.1, y7.2.2), (), w64 (y10 + 1))) fun j11 =>
 bnd (YX (x2.1, x2.2.1, x2.2.2)) fun r12 =>
 j11 ((x2.1, x2.2.1, x2.2.2), (x3.1, x3.2.1, x3.2.2), (r12.1, r12.2.1, r12.2.2), (), x5)
 else
 bif decide (x5 = 1) then
 zz (α := (TPl × ((Int × PPt) × ((Int × PPt) × (Unit × Int))))) (fun (y13, y14, y15, y16, y17) =>
 bif !(decide (y15.1 = 0)) then
 some ((y15.1, y15.2.1, y15.2.2), 0)
 else
 next1 ((y13.1, y13.2.1, y13.2.2), (y14.1, y14.2.1, y14.2.2), (), w64 (y17 + 1))) fun j18 =>
 bnd (Y3 (x2.1, x2.2.1, x2.2.2)) fun r19 =>
 j18 ((x2.1, x2.2.1, x2.2.2), (x3.1, x3.2.1, x3.2.2), (r19.1, r19.2.1, r19.2.2), (), x5)
 else
 bif decide (x5 = 2) then
 zz (α := (TPl × ((Int × PPt) × ((Int × PPt) × (Unit × Int))))) (fun (y20, y21, y22, y23, y24) =>
 bif !(decide (y22.1 = 0)) then
 some ((y22.1, y22.2.1, y22.2.2), 0)
 else
 next1 ((y20.1, y20.2.1, y20.2.2), (y21.1, y21.2.1, y21.2.2), (), w64 (y24 + 1))) fun j25 =>
 bnd (Y1 (x2.1, x2.2.1, x2.2.2)) fun r26 =>
 j25 ((x2.1, x2.2.1, x2.2.2), (x3.1, x3.2.1, x3.2.2), (r26.1, r26.2.1, r26.2.2), (), x5)
 else
 bif decide (x5 = 3) then
 zz (α := (TPl × ((Int × PPt) × ((Int × PPt) × (Unit × Int))))) (fun (y27, y28, y29, y30, y31) =>
 bif !(decide (y29.1 = 0)) then
 some ((y29.1, y29.2.1, y29.2.2), 0)
 else
 next1 ((y27.1, y27.2.1, y27.2.2), (y28.1, y28.2.1, y28.2.2), (), w64 (y31 + 1))) fun j32 =>
 bnd (Yd (x2.1, x2.2.1, x2.2.2)) fun r33 =>
 j32 ((x2.1, x2.2.1, x2.2.2), (x3.1, x3.2.1, x3.2.2), (r33.1, r33.2.1, r33.2.2), (), x5)
 else
 bif decide (x5 = 4) then
 zz (α := (TPl × ((Int × PPt) × ((Int × PPt) × (Unit × Int))))) (fun (y34, y35, y36, y37, y38) =>
 bif !(decide (y36.1 = 0)) then
 some ((y36.1, y36.2.1, y36.2.2), 0)
 else
 next1 ((y34.1, y34.2.1, y34.2.2), (y35.1, y35.2.1, y35.2.2), (), w64 (y38 + 1))) fun j39 =>
 bnd (X2 (x2.1, x2.2.1, x2.2.2)) fun r40 =>
 j39 ((x2.1, x2.2.1, x2.2.2), (x3.1, x3.2.1, x3.2.2), (r40.1, r40.2.1, r40.2.2), (), x5)
 else
 bif decide (x5 = 5) then
 zz (α := (TPl × ((Int × PPt) × ((Int × PPt) × (Unit × Int))))) (fun (y41, y42, y43, y44, y45) =>
 bif !(decide (y43.1 = 0)) then
 some ((y43.1, y43.2.1, y43.2.2), 0)
 else
 next1 ((y41.1, y41.2.1, y41.2.2), (y42.1, y42.2.1, y42.2.2), (), w64 (y45 + 1))) fun j46 =>
 bnd (zaX (x2.1, x2.2.1, x2.2.2)) fun r47 =>
 j46 ((x2.1, x2.2.1, x2.2.2), (x3.1, x3.2.1, x3.2.2), (r47.1, r47.2.1, r47.2.2), (), x5)
 else
 bif decide (x5 = 6) then
 zz (α := (TPl × ((Int × PPt) × ((Int × PPt) × (Unit × Int))))) (fun (y48, y49, y50, y51, y52) =>
 bif !(decide (y50.1 = 0)) then
 some ((y50.1, y50.2.1, y50.2.2), 0)
 else
 next1 ((y48.1, y48.2.1, y48.2.2), (y49.1, y49.2.1, y49.2.2), (), w64 (y52 + 1))) fun j53 =>
 bnd (Y2 (x2.1, x2.2.1, x2.2.2)) fun r54 =>
 j53 ((x2.1, x2.2.1, x2.2.2), (x3.1, x3.2.1, x3.2.2), (r54.1, r54.2.1, r54.2.2), (), x5)
 else
 none
 else
 some ((0, 0, 0), 0)) k ((a0.1, a0.2.1, a0.2.2), (0, 0, 0), (), 0)
theorem zjw (k:Nat) (YV:TPl→Option Int) (YX:TPl→Option (Int×PPt)) (Y3:TPl→Option (Int×PPt)) (Y1:TPl→Option (Int×PPt)) (Yd:TPl→Option (Int×PPt)) (X2:TPl→Option (Int×PPt)) (zaX:TPl→Option (Int×PPt)) (Y2:TPl→Option (Int×PPt)) (a0:TPl):zN [⟨110,[.d kPl],[kI],fun x=>YV x,none⟩,⟨111,[.d kPl],[.pair kI kPP],fun x=>YX x,none⟩,⟨112,[.d kPl],[.pair kI kPP],fun x=>Y3 x,none⟩,⟨113,[.d kPl],[.pair kI kPP],fun x=>Y1 x,none⟩,⟨114,[.d kPl],[.pair kI kPP],fun x=>Yd x,none⟩,⟨115,[.d kPl],[.pair kI kPP],fun x=>X2 x,none⟩,⟨116,[.d kPl],[.pair kI kPP],fun x=>zaX x,none⟩,⟨117,[.d kPl],[.pair kI kPP],fun x=>Y2 x,none⟩] tb k Tryz.f82 zdO [.d kPl] [.pair kI kPP,kI] a0=zbu k YV YX Y3 Y1 Yd X2 zaX Y2 a0:=by kernel_rfl
def QW (k:Nat) (a0:TPl):Option ((Int×PPt)×Int):=zbu k (QZ k) (Kh k) (Kf k) (Ki k) (Js k) (KZ k) (Y5 k) (J6 k) a0
theorem zgU (k:Nat):zv Tryz.prog 82 [.d kPl] [.pair kI kPP,kI] (fun x=>QW k x):=fun x y h=>zg zO mix (zp.cons (ze.of rfl (zgN k)) (zp.cons (ze.of rfl (zgZ k)) (zp.cons (ze.of rfl (zgY k)) (zp.cons (ze.of rfl (zgp k)) (zp.cons (ze.of rfl (zgc k)) (zp.cons (ze.of rfl (zib k)) (zp.cons (ze.of rfl (ziH k)) (zp.cons (ze.of rfl (zgx k)) (zp.nil _))))))))) Tryz.func82 (N:=k) (an:=zdO) (by kernel_rfl) x y ((zjw k (QZ k) (Kh k) (Kf k) (Ki k) (Js k) (KZ k) (Y5 k) (J6 k) x).trans h)
def zfs:Ann:=uNn uLf (uNn uLf (uNn (.node (some [(2,.d .bool)]) none uLf uLf) uLf))
def zcW (k : Nat) (YZ : TPl → Option ((Int × PPt) × Int)) (a0 : TPl) : Option Bool :=
 bnd (YZ (a0.1, a0.2.1, a0.2.2)) fun r0 =>
 zz (α := Bool) (fun y1 =>
 some y1) fun j2 =>
 bif decide (r0.2 = 0) then
 j2 (decide (r0.1.1 = 0))
 else
 j2 false
theorem zk0 (k:Nat) (YZ:TPl→Option ((Int×PPt)×Int)) (a0:TPl):zN [⟨82,[.d kPl],[.pair kI kPP,kI],fun x=>YZ x,none⟩] tb k Tryz.f45 zfs [.d kPl] [.bool] a0=zcW k YZ a0:=by kernel_rfl
def JO (k:Nat) (a0:TPl):Option Bool:=zcW k (QW k) a0
theorem zih (k:Nat):zv Tryz.prog 45 [.d kPl] [.bool] (fun x=>JO k x):=fun x y h=>zg zO mix (zp.cons (ze.of rfl (zgU k)) (zp.nil _)) Tryz.func45 (N:=k) (an:=zfs) (by kernel_rfl) x y ((zk0 k (QW k) x).trans h)
def zj3:Ann:=uNn uLf (uNn uLf (uNn (uNn uLf (uNn (.node none (some [(0,.d (.sl kLP)),(3,.d kI),(9,.d (.sl kLP)),(10,.d kI),(11,.d kI)]) (uNn uLf (uNn uLf (uNn (uNn (uNn uLf (uNn uLf (uNn uLf (.node (some [(0,.d (.sl kLP)),(3,.d kI),(9,.d (.sl kLP)),(10,.d kI),(11,.d kI)]) none uLf uLf)))) uLf) uLf))) uLf) uLf)) (uNn uLf (uNn (uNn uLf (uNn (.node none (some [(6,.row kPP 60),(25,.d (.sl kLP)),(26,.d kI),(27,.d kI)]) uLf uLf) uLf)) uLf))))
def YD (k : Nat) (a0 : (List LPt)) : Option LPt :=
 zA (α := ((List LPt) × (Int × ((List LPt) × PPt)))) (fun (x1, x2, x3, x4, x5) next0 =>
 bif decide (x5 < x4) then
 gd (inb x5 x3.length) <|
 zz (α := ((List LPt) × (Int × ((List LPt) × PPt)))) (fun (y6, y7, y8, y9, y10) =>
 next0 (y6, y7, y8, y9, w64 (y10 + 1))) fun j11 =>
 bif decide ((w64 (x2 + ((rdD [] x3 x5).length : Int))) < 0) then
 none
 else
 j11 (x1, w64 (x2 + ((rdD [] x3 x5).length : Int)), x3, x4, x5)
 else
 gd (decide (0 ≤ x2)) <|
 gd (zff x2) <|
 zA (α := (LPt × ((List LPt) × PPt))) (fun (x13, x14, x15, x16) next12 =>
 bif decide (x16 < x15) then
 gd (inb x16 x14.length) <|
 gd (few (x13.length + (rdD [] x14 x16).length)) <|
 next12 (x13 ++ (rdD [] x14 x16), x14, x15, w64 (x16 + 1))
 else
 some x13) k ([], x1, (x1.length : Int), 0)) k (a0, 0, a0, (a0.length : Int), 0)
theorem zpx (k:Nat) (a0:(List LPt)):zN [⟨118,[],[],fun _=>none,some (.grw kPP 60)⟩] tb k Tryz.f83 zj3 [.d (.sl kLP)] [.sl kPP] a0=YD k a0:=by kernel_rfl
theorem zfw (k:Nat):zv Tryz.prog 83 [.d (.sl kLP)] [.sl kPP] (fun x=>YD k x):=fun x y h=>zg zO mix (zp.cons (ze.grow zqL) (zp.nil _)) Tryz.func83 (N:=k) (an:=zj3) (by kernel_rfl) x y ((zpx k x).trans h)
def zkk:Ann:=uLf
def Q3 (k : Nat) (a0 : PPt) : Option PPt :=
 some (mnI a0.1 a0.2, mxI a0.1 a0.2)
theorem zpZ (k:Nat) (a0:PPt):zN [] tb k Tryz.f61 zkk [.d kPP] [.pair kI kI] a0=Q3 k a0:=by kernel_rfl
theorem zbd (k:Nat):zv Tryz.prog 61 [.d kPP] [.pair kI kI] (fun x=>Q3 k x):=fun x y h=>zg zO mix (zp.nil _) Tryz.func61 (N:=k) (an:=zkk) (by kernel_rfl) x y ((zpZ k x).trans h)
def X6:Ann:=uNn uLf (uNn uLf (uNn (uNn uLf (uNn (.node none (some [(3,.row kPP 60),(11,.d kLP),(12,.d kI),(13,.d kI)]) uLf uLf) uLf)) uLf))
def za1 (k : Nat) (YC : (List LPt) → Option LPt) (ZU : PPt → Option PPt) (a0 : TPl) : Option LPt :=
 bnd (YC [a0.2.1, a0.2.2]) fun r0 =>
 zA (α := (LPt × (LPt × PPt))) (fun (x2, x3, x4, x5) next1 =>
 bif decide (x5 < x4) then
 gd (inb x5 x3.length) <|
 bnd (ZU ((rdD (0, 0) x3 x5).1, (rdD (0, 0) x3 x5).2)) fun r6 =>
 gd (few (x2.length + 1)) <|
 next1 (x2 ++ [(r6.1, r6.2)], x3, x4, w64 (x5 + 1))
 else
 gd (few x2.length) <|
 some (YA Jr x2)) k ([], r0, (r0.length : Int), 0)
theorem zmr (k:Nat) (YC:(List LPt)→Option LPt) (ZU:PPt→Option PPt) (a0:TPl):zqz [⟨48,[],[],fun _=>none,some (.srt kPP 49 Jr)⟩,⟨83,[.d (.sl kLP)],[.sl kPP],fun x=>YC x,none⟩,⟨61,[.d kPP],[.pair kI kI],fun x=>ZU x,none⟩] tb k Tryz.f46 X6 [.d kPl] kPP 60 a0=za1 k YC ZU a0:=by kernel_rfl
def Zy (k:Nat) (a0:TPl):Option LPt:=za1 k (YD k) (Q3 k) a0
theorem ziV (k:Nat):zf1 Tryz.prog 46 [.d kPl] kPP 60 (fun x=>Zy k x):=⟨rfl,rfl,fun x y h=>(zjS zO mix (zp.cons (ze.sort zoZ) (zp.cons (ze.of rfl (zfw k)) (zp.cons (ze.of rfl (zbd k)) (zp.nil _)))) Tryz.func46 (N:=k) (an:=X6) rfl rfl (by kernel_rfl)).2.2 x y ((zmr k (YD k) (Q3 k) x).trans h)⟩
theorem zlc (k:Nat) (YC:(List LPt)→Option LPt) (ZU:PPt→Option PPt) (a0:TPl):zN [⟨48,[],[],fun _=>none,some (.srt kPP 49 Jr)⟩,⟨83,[.d (.sl kLP)],[.sl kPP],fun x=>YC x,none⟩,⟨61,[.d kPP],[.pair kI kI],fun x=>ZU x,none⟩] tb k Tryz.f46 X6 [.d kPl] [.sl kPP] a0=za1 k YC ZU a0:=by kernel_rfl
theorem zgB (k:Nat):zv Tryz.prog 46 [.d kPl] [.sl kPP] (fun x=>Zy k x):=fun x y h=>zg zO mix (zp.cons (ze.sort zoZ) (zp.cons (ze.of rfl (zfw k)) (zp.cons (ze.of rfl (zbd k)) (zp.nil _)))) Tryz.func46 (N:=k) (an:=X6) (by kernel_rfl) x y ((zlc k (YD k) (Q3 k) x).trans h)
def zhc:Ann:=uNn uLf (uNn (uNn uLf (uNn (.node none (some [(1,.d kLP),(2,.d kI),(3,.d kI),(4,.box [.d kPl]),(18,.d kLP),(19,.d kI),(20,.d kI)]) uLf uLf) uLf)) (uNn (uNn uLf (uNn (.node none (some [(2,.d kI),(3,.d kI),(4,.box [.d kPl]),(37,.d kLP),(38,.d kI),(39,.d kI)]) uLf uLf) uLf)) uLf))
def zea (k : Nat) (qw : PPt → PPt → PPt → Option Bool) (Z6 : PPt → PPt → PPt → PPt → Option PPt) (ja : LPt → LPt → Int → Int → Option PPt) (a0 : TPl) (a1 : LPt) (a2 : Int) (a3 : Int) : Option Bool :=
 zA (α := (LPt × (Int × (Int × (TPl × (LPt × PPt)))))) (fun (x1, x2, x3, x4, x5, x6, x7) next0 =>
 bif decide (x7 < x6) then
 gd (inb x7 x5.length) <|
 gd (inb x2 x4.1.length) <|
 gd (inb x3 x4.1.length) <|
 bnd (qw ((rdD (0, 0) x4.1 x2).1, (rdD (0, 0) x4.1 x2).2) ((rdD (0, 0) x4.1 x3).1, (rdD (0, 0) x4.1 x3).2) ((rdD (0, 0) x5 x7).1, (rdD (0, 0) x5 x7).2)) fun r8 =>
 bif r8 then
 some false
 else
 next0 (x1, x2, x3, (x4.1, x4.2.1, x4.2.2), x5, x6, w64 (x7 + 1))
 else
 zA (α := (Int × (Int × (TPl × (LPt × PPt))))) (fun (x10, x11, x12, x13, x14, x15) next9 =>
 bif decide (x15 < x14) then
 gd (inb x15 x13.length) <|
 gd (inb x10 x12.1.length) <|
 gd (inb x11 x12.1.length) <|
 gd (inb (rdD (0, 0) x13 x15).1 x12.1.length) <|
 gd (inb (rdD (0, 0) x13 x15).2 x12.1.length) <|
 bnd (Z6 ((rdD (0, 0) x12.1 x10).1, (rdD (0, 0) x12.1 x10).2) ((rdD (0, 0) x12.1 x11).1, (rdD (0, 0) x12.1 x11).2) ((rdD (0, 0) x12.1 (rdD (0, 0) x13 x15).1).1, (rdD (0, 0) x12.1 (rdD (0, 0) x13 x15).1).2) ((rdD (0, 0) x12.1 (rdD (0, 0) x13 x15).2).1, (rdD (0, 0) x12.1 (rdD (0, 0) x13 x15).2).2)) fun r16 =>
 bif decide (r16.1 > 1) then
 some false
 else
 next9 (x10, x11, (x12.1, x12.2.1, x12.2.2), x13, x14, w64 (x15 + 1))
 else
 bnd (ja x12.1 x12.2.1 x10 x11) fun r17 =>
 some (decide (r17.1 = 1))) k (x2, x3, (x4.1, x4.2.1, x4.2.2), x1, (x1.length : Int), 0)) k (a1, a2, a3, (a0.1, a0.2.1, a0.2.2), a0.1, (a0.1.length : Int), 0)
theorem znf (k:Nat) (qw:PPt→PPt→PPt→Option Bool) (Z6:PPt→PPt→PPt→PPt→Option PPt) (ja:LPt→LPt→Int→Int→Option PPt) (a0:TPl) (a1:LPt) (a2:Int) (a3:Int):zN [⟨84,[.d kPP,.d kPP,.d kPP],[.bool],fun x=>qw (x.1) (x.2.1) (x.2.2),none⟩,⟨85,[.d kPP,.d kPP,.d kPP,.d kPP],[kI,kI],fun x=>Z6 (x.1) (x.2.1) (x.2.2.1) (x.2.2.2),none⟩,⟨86,[.d kLP,.d kLP,.d kI,.d kI],[kI,kI],fun x=>ja (x.1) (x.2.1) (x.2.2.1) (x.2.2.2),none⟩] tb k Tryz.f47 zhc [.d kPl,.d kLP,.d kI,.d kI] [.bool] (a0,a1,a2,a3)=zea k qw Z6 ja a0 a1 a2 a3:=by kernel_rfl
def KI (k:Nat) (a0:TPl) (a1:LPt) (a2:Int) (a3:Int):Option Bool:=zea k (jj k) (ZY k) (jx k) a0 a1 a2 a3
theorem ziP (k:Nat):zv Tryz.prog 47 [.d kPl,.d kLP,.d kI,.d kI] [.bool] (fun x=>KI k (x.1) (x.2.1) (x.2.2.1) (x.2.2.2)):=fun x y h=>zg zO mix (zp.cons (ze.of rfl (K8 k)) (zp.cons (ze.of rfl (zda k)) (zp.cons (ze.of rfl (Xo k)) (zp.nil _)))) Tryz.func47 (N:=k) (an:=zhc) (by kernel_rfl) x y ((znf k (jj k) (ZY k) (jx k) (x.1) (x.2.1) (x.2.2.1) (x.2.2.2)).trans h)
def zfG:Ann:=uNn uLf (uNn uLf (uNn uLf (uNn (uNn uLf (uNn (.node none (some [(1,.box [.d kPl]),(4,.row kPP 60),(14,.d kI),(15,.d kI)]) (uNn uLf (uNn uLf (uNn (uNn (uNn uLf (uNn uLf (uNn (.node none (some [(1,.box [.d kPl]),(4,.row kPP 60),(5,.d kI),(6,.d kI),(14,.d kI),(15,.d kI)]) (uNn uLf (uNn (uNn (uNn uLf (.node (some [(1,.box [.d kPl]),(4,.row kPP 60),(5,.d kI),(6,.d kI),(14,.d kI),(15,.d kI)]) none uLf uLf)) uLf) uLf)) uLf) uLf))) uLf) uLf))) uLf) uLf)) uLf)))
def zct (k : Nat) (X7 : TPl → Option Bool) (Qa : TPl → Option LPt) (zaS : TPl → LPt → Int → Int → Option Bool) (a0 : TPl) : Option (LPt × Int) :=
 bnd (X7 (a0.1, a0.2.1, a0.2.2)) fun r0 =>
 bif !r0 then
 some ([], 2)
 else
 bnd (Qa (a0.1, a0.2.1, a0.2.2)) fun r1 =>
 zA (α := (TPl × (LPt × PPt))) (fun (x3, x4, x5, x6) next2 =>
 bif decide (x6 < x5) then
 zA (α := (TPl × (LPt × (Int × (Int × PPt))))) (fun (x8, x9, x10, x11, x12, x13) next7 =>
 bif decide (x11 < (x8.1.length : Int)) then
 bnd (zaS (x8.1, x8.2.1, x8.2.2) x9 x10 x11) fun r14 =>
 zz (α := (TPl × (LPt × (Int × (Int × PPt))))) (fun (y15, y16, y17, y18, y19, y20) =>
 next7 ((y15.1, y15.2.1, y15.2.2), y16, y17, w64 (y18 + 1), y19, y20)) fun j21 =>
 bif r14 then
 gd (few (x9.length + 1)) <|
 j21 ((x8.1, x8.2.1, x8.2.2), x9 ++ [(x10, x11)], x10, x11, x12, x13)
 else
 j21 ((x8.1, x8.2.1, x8.2.2), x9, x10, x11, x12, x13)
 else
 next2 ((x8.1, x8.2.1, x8.2.2), x9, x12, w64 (x13 + 1))) k ((x3.1, x3.2.1, x3.2.2), x4, x6, w64 (x6 + 1), x5, x6)
 else
 gd (few x4.length) <|
 some (YA Jr x4, 0)) k ((a0.1, a0.2.1, a0.2.2), r1, (a0.1.length : Int), 0)
theorem zla (k:Nat) (X7:TPl→Option Bool) (Qa:TPl→Option LPt) (zaS:TPl→LPt→Int→Int→Option Bool) (a0:TPl):zN [⟨48,[],[],fun _=>none,some (.srt kPP 49 Jr)⟩,⟨45,[.d kPl],[.bool],fun x=>X7 x,none⟩,⟨46,[],[],fun _=>none,some (.own [.d kPl] kPP 60 fun x=>Qa x)⟩,⟨47,[.d kPl,.d kLP,.d kI,.d kI],[.bool],fun x=>zaS (x.1) (x.2.1) (x.2.2.1) (x.2.2.2),none⟩] tb k Tryz.f13 zfG [.d kPl] [.sl kPP,kI] a0=zct k X7 Qa zaS a0:=by kernel_rfl
def jl (k:Nat) (a0:TPl):Option (LPt×Int):=zct k (JO k) (Zy k) (KI k) a0
theorem YP (k:Nat):zv Tryz.prog 13 [.d kPl] [.sl kPP,kI] (fun x=>jl k x):=fun x y h=>zg zO mix (zp.cons (ze.sort zoZ) (zp.cons (ze.of rfl (zih k)) (zp.cons (ze.own (ziV k)) (zp.cons (ze.of rfl (ziP k)) (zp.nil _))))) Tryz.func13 (N:=k) (an:=zfG) (by kernel_rfl) x y ((zla k (JO k) (Zy k) (KI k) x).trans h)
def zip:Ann:=uNn uLf (uNn (uNn uLf (uNn (.node none (some [(0,.d kLP),(1,.d kI),(2,.d kI),(3,.d kI),(8,.box [.d (.pair kI kPP)]),(15,.d (.pair kI kPP)),(16,.d kI)]) (uNn uLf (uNn uLf (uNn (uNn (uNn (.node (some [(0,.d kLP),(1,.d kI),(2,.d kI),(3,.d kI),(8,.box [.d (.pair kI kPP)]),(11,.d kI),(15,.d (.pair kI kPP)),(16,.d kI)]) none uLf uLf) (uNn (.node (some [(0,.d kLP),(1,.d kI),(2,.d kI),(3,.d kI),(8,.box [.d (.pair kI kPP)]),(15,.d (.pair kI kPP)),(16,.d kI),(26,.d .bool)]) none uLf uLf) uLf)) uLf) uLf))) uLf) uLf)) (uNn (uNn uLf (uNn (uNn uLf (uNn uLf (uNn uLf (.node (some [(1,.d kI),(2,.d kI),(3,.d kI),(8,.box [.d (.pair kI kPP)])]) none uLf uLf)))) uLf)) (uNn (uNn (.node none (some [(1,.d kI),(2,.d kI),(3,.d kI),(8,.box [.d (.pair kI kPP)])]) (uNn (uNn (.node (some [(1,.d kI),(2,.d kI),(3,.d kI),(8,.box [.d (.pair kI kPP)]),(56,.d .bool)]) none uLf uLf) uLf) uLf) uLf) uLf) uLf)))
def zfL (k : Nat) (zS : PPt → PPt → PPt → Option Int) (a0 : LPt) (a1 : Int) (a2 : Int) (a3 : Int) : Option ((Int × PPt) × Bool) :=
 zA (α := (LPt × (Int × (Int × (Int × ((Int × PPt) × ((Int × PPt) × Int))))))) (fun (x1, x2, x3, x4, x5, x6, x7) next0 =>
 bif decide (x7 < 3) then
 zz (α := (LPt × (Int × (Int × (Int × ((Int × PPt) × (Int × ((Int × PPt) × Int)))))))) (fun (y8, y9, y10, y11, y12, y13, y14, y15) =>
 zz (α := (LPt × (Int × (Int × (Int × ((Int × PPt) × ((Int × PPt) × (Int × Bool)))))))) (fun (y16, y17, y18, y19, y20, y21, y22, y23) =>
 bif y23 then
 some ((0, 0, 0), false)
 else
 next0 (y16, y17, y18, y19, (y20.1, y20.2.1, y20.2.2), (y21.1, y21.2.1, y21.2.2), w64 (y22 + 1))) fun j24 =>
 bif decide (y13 < 0) then
 j24 (y8, y9, y10, y11, (y12.1, y12.2.1, y12.2.2), (y14.1, y14.2.1, y14.2.2), y15, true)
 else
 j24 (y8, y9, y10, y11, (y12.1, y12.2.1, y12.2.2), (y14.1, y14.2.1, y14.2.2), y15, decide (y13 ≥ (y8.length : Int)))) fun j25 =>
 bif decide (x7 = 0) then
 j25 (x1, x2, x3, x4, (x5.1, x5.2.1, x5.2.2), x6.1, (x6.1, x6.2.1, x6.2.2), x7)
 else
 bif decide (x7 = 1) then
 j25 (x1, x2, x3, x4, (x5.1, x5.2.1, x5.2.2), x6.2.1, (x6.1, x6.2.1, x6.2.2), x7)
 else
 bif decide (x7 = 2) then
 j25 (x1, x2, x3, x4, (x5.1, x5.2.1, x5.2.2), x6.2.2, (x6.1, x6.2.1, x6.2.2), x7)
 else
 none
 else
 gd (inb x2 x1.length) <|
 gd (inb x3 x1.length) <|
 gd (inb x4 x1.length) <|
 bnd (zS ((rdD (0, 0) x1 x2).1, (rdD (0, 0) x1 x2).2) ((rdD (0, 0) x1 x3).1, (rdD (0, 0) x1 x3).2) ((rdD (0, 0) x1 x4).1, (rdD (0, 0) x1 x4).2)) fun r26 =>
 bif decide (r26 = 0) then
 some ((0, 0, 0), false)
 else
 zz (α := (Int × (Int × (Int × (Int × PPt))))) (fun (y27, y28, y29, y30, y31, y32) =>
 zA (α := (Int × (Int × (Int × (Int × PPt))))) (fun (x34, x35, x36, x37, x38, x39) next33 =>
 zz (α := (Int × (Int × (Int × ((Int × PPt) × Bool))))) (fun (y40, y41, y42, y43, y44) =>
 bif y44 then
 next33 (y41, y42, y40, y43.1, y43.2.1, y43.2.2)
 else
 some ((y40, y41, y42), true)) fun j45 =>
 bif decide (x34 > x35) then
 j45 (x34, x35, x36, (x37, x38, x39), true)
 else
 j45 (x34, x35, x36, (x37, x38, x39), decide (x34 > x36))) k (y27, y28, y29, y30, y31, y32)) fun j46 =>
 bif decide (r26 = (-1)) then
 j46 (x2, x4, x3, x5.1, x5.2.1, x5.2.2)
 else
 j46 (x2, x3, x4, x5.1, x5.2.1, x5.2.2)) k (a0, a1, a2, a3, (0, 0, 0), (a1, a2, a3), 0)
theorem zoD (k:Nat) (zS:PPt→PPt→PPt→Option Int) (a0:LPt) (a1:Int) (a2:Int) (a3:Int):zN [⟨81,[.d kPP,.d kPP,.d kPP],[kI],fun x=>zS (x.1) (x.2.1) (x.2.2),none⟩] tb k Tryz.f40 zip [.d kLP,.d kI,.d kI,.d kI] [.pair kI kPP,.bool] (a0,a1,a2,a3)=zfL k zS a0 a1 a2 a3:=by kernel_rfl
def ZE (k:Nat) (a0:LPt) (a1:Int) (a2:Int) (a3:Int):Option ((Int×PPt)×Bool):=zfL k (qH k) a0 a1 a2 a3
theorem zd9 (k:Nat):zv Tryz.prog 40 [.d kLP,.d kI,.d kI,.d kI] [.pair kI kPP,.bool] (fun x=>ZE k (x.1) (x.2.1) (x.2.2.1) (x.2.2.2)):=fun x y h=>zg zO mix (zp.cons (ze.of rfl (Z4 k)) (zp.nil _)) Tryz.func40 (N:=k) (an:=zip) (by kernel_rfl) x y ((zoD k (qH k) (x.1) (x.2.1) (x.2.2.1) (x.2.2.2)).trans h)
def zc4:Ann:=uLf
def zaF (k : Nat) (jk : LPt → LPt → (List Int) → Option PPt) (a0 : LPt) (a1 : LPt) (a2 : Int) (a3 : Int) (a4 : Int) : Option PPt :=
 bnd (jk a0 a1 [a2, a3, a4]) fun r0 =>
 some (r0.1, r0.2)
theorem ziL (k:Nat) (jk:LPt→LPt→(List Int)→Option PPt) (a0:LPt) (a1:LPt) (a2:Int) (a3:Int) (a4:Int):zN [⟨91,[.d kLP,.d kLP,.d (.sl kI)],[kI,kI],fun x=>jk (x.1) (x.2.1) (x.2.2),none⟩] tb k Tryz.f54 zc4 [.d kLP,.d kLP,.d kI,.d kI,.d kI] [kI,kI] (a0,a1,a2,a3,a4)=zaF k jk a0 a1 a2 a3 a4:=by kernel_rfl
def Za (k:Nat) (a0:LPt) (a1:LPt) (a2:Int) (a3:Int) (a4:Int):Option PPt:=zaF k (jP k) a0 a1 a2 a3 a4
theorem zfY (k:Nat):zv Tryz.prog 54 [.d kLP,.d kLP,.d kI,.d kI,.d kI] [kI,kI] (fun x=>Za k (x.1) (x.2.1) (x.2.2.1) (x.2.2.2.1) (x.2.2.2.2)):=fun x y h=>zg zO mix (zp.cons (ze.of rfl (XJ k)) (zp.nil _)) Tryz.func54 (N:=k) (an:=zc4) (by kernel_rfl) x y ((ziL k (jP k) (x.1) (x.2.1) (x.2.2.1) (x.2.2.2.1) (x.2.2.2.2)).trans h)
def zjG:Ann:=uNn uLf (uNn (.node (some [(6,.d .bool)]) none uLf uLf) uLf)
def zhz (k : Nat) (zS : PPt → PPt → PPt → Option Int) (a0 : LPt) (a1 : (Int × PPt)) (a2 : PPt) : Option Bool :=
 zz (α := Bool) (fun y0 =>
 some y0) fun j1 =>
 gd (inb a1.1 a0.length) <|
 gd (inb a1.2.1 a0.length) <|
 bnd (zS ((rdD (0, 0) a0 a1.1).1, (rdD (0, 0) a0 a1.1).2) ((rdD (0, 0) a0 a1.2.1).1, (rdD (0, 0) a0 a1.2.1).2) (a2.1, a2.2)) fun r2 =>
 bif decide (r2 ≥ 0) then
 gd (inb a1.2.1 a0.length) <|
 gd (inb a1.2.2 a0.length) <|
 bnd (zS ((rdD (0, 0) a0 a1.2.1).1, (rdD (0, 0) a0 a1.2.1).2) ((rdD (0, 0) a0 a1.2.2).1, (rdD (0, 0) a0 a1.2.2).2) (a2.1, a2.2)) fun r3 =>
 bif decide (r3 ≥ 0) then
 gd (inb a1.2.2 a0.length) <|
 gd (inb a1.1 a0.length) <|
 bnd (zS ((rdD (0, 0) a0 a1.2.2).1, (rdD (0, 0) a0 a1.2.2).2) ((rdD (0, 0) a0 a1.1).1, (rdD (0, 0) a0 a1.1).2) (a2.1, a2.2)) fun r4 =>
 j1 (decide (r4 ≥ 0))
 else
 j1 false
 else
 j1 false
theorem zp8 (k:Nat) (zS:PPt→PPt→PPt→Option Int) (a0:LPt) (a1:(Int×PPt)) (a2:PPt):zN [⟨81,[.d kPP,.d kPP,.d kPP],[kI],fun x=>zS (x.1) (x.2.1) (x.2.2),none⟩] tb k Tryz.f92 zjG [.d kLP,.d (.pair kI kPP),.d kPP] [.bool] (a0,a1,a2)=zhz k zS a0 a1 a2:=by kernel_rfl
def zae (k:Nat) (a0:LPt) (a1:(Int×PPt)) (a2:PPt):Option Bool:=zhz k (qH k) a0 a1 a2
theorem zkW (k:Nat):zv Tryz.prog 92 [.d kLP,.d (.pair kI kPP),.d kPP] [.bool] (fun x=>zae k (x.1) (x.2.1) (x.2.2)):=fun x y h=>zg zO mix (zp.cons (ze.of rfl (Z4 k)) (zp.nil _)) Tryz.func92 (N:=k) (an:=zjG) (by kernel_rfl) x y ((zp8 k (qH k) (x.1) (x.2.1) (x.2.2)).trans h)
def zfq:Ann:=uNn uLf (uNn (uNn uLf (uNn (.node none (some [(0,.d kLP),(3,.box [.d (.pair kI kPP)]),(7,.d kLP),(8,.d kI),(9,.d kI)]) (uNn uLf (uNn uLf (uNn (uNn (uNn uLf (uNn (.node (some [(0,.d kLP),(3,.box [.d (.pair kI kPP)]),(7,.d kLP),(8,.d kI),(9,.d kI),(35,.d .bool)]) none uLf uLf) uLf)) uLf) uLf))) uLf) uLf)) uLf)
def zcH (k : Nat) (ze7 : LPt → (Int × PPt) → PPt → Option Bool) (a0 : LPt) (a1 : (Int × PPt)) : Option Bool :=
 zA (α := (LPt × ((Int × PPt) × (LPt × PPt)))) (fun (x1, x2, x3, x4, x5) next0 =>
 bif decide (x5 < x4) then
 gd (inb x5 x3.length) <|
 zz (α := (LPt × ((Int × PPt) × (LPt × (Int × (Int × Bool)))))) (fun (y6, y7, y8, y9, y10, y11) =>
 bif y11 then
 some false
 else
 next0 (y6, (y7.1, y7.2.1, y7.2.2), y8, y9, w64 (y10 + 1))) fun j12 =>
 bif !(decide (x5 = x2.1)) then
 bif !(decide (x5 = x2.2.1)) then
 bif !(decide (x5 = x2.2.2)) then
 bnd (ze7 x1 (x2.1, x2.2.1, x2.2.2) ((rdD (0, 0) x3 x5).1, (rdD (0, 0) x3 x5).2)) fun r13 =>
 j12 (x1, (x2.1, x2.2.1, x2.2.2), x3, x4, x5, r13)
 else
 j12 (x1, (x2.1, x2.2.1, x2.2.2), x3, x4, x5, false)
 else
 j12 (x1, (x2.1, x2.2.1, x2.2.2), x3, x4, x5, false)
 else
 j12 (x1, (x2.1, x2.2.1, x2.2.2), x3, x4, x5, false)
 else
 some true) k (a0, (a1.1, a1.2.1, a1.2.2), a0, (a0.length : Int), 0)
theorem zkY (k:Nat) (ze7:LPt→(Int×PPt)→PPt→Option Bool) (a0:LPt) (a1:(Int×PPt)):zN [⟨92,[.d kLP,.d (.pair kI kPP),.d kPP],[.bool],fun x=>ze7 (x.1) (x.2.1) (x.2.2),none⟩] tb k Tryz.f55 zfq [.d kLP,.d (.pair kI kPP)] [.bool] (a0,a1)=zcH k ze7 a0 a1:=by kernel_rfl
def Zr (k:Nat) (a0:LPt) (a1:(Int×PPt)):Option Bool:=zcH k (zae k) a0 a1
theorem zhG (k:Nat):zv Tryz.prog 55 [.d kLP,.d (.pair kI kPP)] [.bool] (fun x=>Zr k (x.1) (x.2)):=fun x y h=>zg zO mix (zp.cons (ze.of rfl (zkW k)) (zp.nil _)) Tryz.func55 (N:=k) (an:=zfq) (by kernel_rfl) x y ((zkY k (zae k) (x.1) (x.2)).trans h)
def zg2:Ann:=uNn uLf (uNn uLf (uNn uLf (uNn uLf (uNn (uNn uLf (uNn (.node none (some [(1,.box [.d kPl]),(2,.box [.row kPP 44,.row (.pair kI kPP) 56,.row kPP 60]),(4,.d kLP),(6,.mp kPP .bool),(27,.d kLP),(28,.d kI),(29,.d kI)]) uLf uLf) uLf)) (uNn uLf (uNn (uNn uLf (uNn (.node none (some [(1,.box [.d kPl]),(2,.box [.row kPP 44,.row (.pair kI kPP) 56,.row kPP 60]),(6,.mp kPP .bool),(9,.box [.row kPP 44,.row (.pair kI kPP) 56,.d kLP]),(42,.d kLP),(43,.d kI),(44,.d kI)]) (uNn uLf (uNn uLf (uNn (uNn (uNn uLf (uNn uLf (uNn (.node none (some [(1,.box [.d kPl]),(2,.box [.row kPP 44,.row (.pair kI kPP) 56,.row kPP 60]),(6,.mp kPP .bool),(9,.box [.row kPP 44,.row (.pair kI kPP) 56,.d kLP]),(11,.box [.d kPP]),(12,.d kI),(42,.d kLP),(43,.d kI),(44,.d kI)]) (uNn uLf (uNn (.node (some [(1,.box [.d kPl]),(2,.box [.row kPP 44,.row (.pair kI kPP) 56,.row kPP 60]),(6,.mp kPP .bool),(9,.box [.row kPP 44,.row (.pair kI kPP) 56,.d kLP]),(11,.box [.d kPP]),(12,.d kI),(42,.d kLP),(43,.d kI),(44,.d kI)]) none (uNn (uNn (.node (some [(1,.box [.d kPl]),(2,.box [.row kPP 44,.row (.pair kI kPP) 56,.row kPP 60]),(6,.mp kPP .bool),(9,.box [.row kPP 44,.row (.pair kI kPP) 56,.d kLP]),(11,.box [.d kPP]),(12,.d kI),(42,.d kLP),(43,.d kI),(44,.d kI),(73,.d .bool)]) none uLf uLf) uLf) (uNn uLf (uNn uLf (uNn (.node (some [(1,.box [.d kPl]),(2,.box [.row kPP 44,.row (.pair kI kPP) 56,.row kPP 60]),(6,.mp kPP .bool),(9,.box [.row kPP 44,.row (.pair kI kPP) 56,.d kLP]),(11,.box [.d kPP]),(12,.d kI),(13,.box [.d (.pair kI kPP)]),(42,.d kLP),(43,.d kI),(44,.d kI),(108,.d .bool)]) none uLf uLf) (.node (some [(1,.box [.d kPl]),(2,.box [.row kPP 44,.row (.pair kI kPP) 56,.row kPP 60]),(6,.mp kPP .bool),(9,.box [.row kPP 44,.row (.pair kI kPP) 56,.d kLP]),(11,.box [.d kPP]),(12,.d kI),(42,.d kLP),(43,.d kI),(44,.d kI)]) none uLf uLf))))) uLf) uLf)) uLf) uLf))) uLf) uLf))) uLf) uLf)) uLf))))))
def zeo (k : Nat) (qV : TPl → Option (LPt × Int)) (Qa : TPl → Option LPt) (QP : LPt → Int → Int → Int → Option ((Int × PPt) × Bool)) (K9 : LPt → LPt → Int → Int → Int → Option PPt) (X1 : LPt → (Int × PPt) → Option Bool) (a0 : TPl) : Option (TMs × Int) :=
 bnd (qV (a0.1, a0.2.1, a0.2.2)) fun r0 =>
 bif !(decide (r0.2 = 0)) then
 some (([], [], []), r0.2)
 else
 zA (α := (TPl × (TMs × (LPt × ((List (PPt × Bool)) × (LPt × PPt)))))) (fun (x2, x3, x4, x5, x6, x7, x8) next1 =>
 bif decide (x8 < x7) then
 gd (inb x8 x6.length) <|
 gd (!(hsM (.pair (.int .i64) (.int .i64)) .bool x5 ((rdD (0, 0) x6 x8).1, (rdD (0, 0) x6 x8).2))) <|
 next1 ((x2.1, x2.2.1, x2.2.2), (x3.1, x3.2.1, x3.2.2), x4, adM (.pair (.int .i64) (.int .i64)) .bool x5 ((rdD (0, 0) x6 x8).1, (rdD (0, 0) x6 x8).2) true, x6, x7, w64 (x8 + 1))
 else
 gd (decide (0 < (x2.1.length : Int))) <|
 gd (few x2.1.length) <|
 bnd (Qa (x2.1, x2.2.1, x2.2.2)) fun r9 =>
 zA (α := (TPl × (TMs × ((List (PPt × Bool)) × (TMs × (LPt × PPt)))))) (fun (x11, x12, x13, x14, x15, x16, x17) next10 =>
 bif decide (x17 < x16) then
 gd (inb x17 x15.length) <|
 zA (α := (TPl × (TMs × ((List (PPt × Bool)) × (TMs × (PPt × (Int × (LPt × PPt)))))))) (fun (x19, x20, x21, x22, x23, x24, x25, x26, x27) next18 =>
 bif decide (x24 < (x19.1.length : Int)) then
 zz (α := (TPl × (TMs × ((List (PPt × Bool)) × (TMs × (PPt × (Int × (LPt × PPt)))))))) (fun (y28, y29, y30, y31, y32, y33, y34, y35, y36) =>
 next18 ((y28.1, y28.2.1, y28.2.2), (y29.1, y29.2.1, y29.2.2), y30, (y31.1, y31.2.1, y31.2.2), (y32.1, y32.2), w64 (y33 + 1), y34, y35, y36)) fun j37 =>
 zz (α := (TPl × (TMs × ((List (PPt × Bool)) × (TMs × (PPt × (Int × (LPt × (Int × (Int × Bool)))))))))) (fun (y38, y39, y40, y41, y42, y43, y44, y45, y46, y47) =>
 bif y47 then
 j37 ((y38.1, y38.2.1, y38.2.2), (y39.1, y39.2.1, y39.2.2), y40, (y41.1, y41.2.1, y41.2.2), (y42.1, y42.2), y43, y44, y45, y46)
 else
 bnd (QP y38.1 y42.1 y42.2 y43) fun r48 =>
 bnd (K9 y38.1 y38.2.1 y42.1 y42.2 y43) fun r49 =>
 zz (α := (TPl × (TMs × ((List (PPt × Bool)) × (TMs × (PPt × (Int × ((Int × PPt) × (LPt × (Int × (Int × Bool))))))))))) (fun (y50, y51, y52, y53, y54, y55, y56, y57, y58, y59, y60) =>
 zz (α := (TPl × (TMs × ((List (PPt × Bool)) × (TMs × (PPt × (Int × (LPt × PPt)))))))) (fun (y61, y62, y63, y64, y65, y66, y67, y68, y69) =>
 j37 ((y61.1, y61.2.1, y61.2.2), (y62.1, y62.2.1, y62.2.2), y63, (y64.1, y64.2.1, y64.2.2), (y65.1, y65.2), y66, y67, y68, y69)) fun j70 =>
 bif y60 then
 gd (few (y53.2.1.length + 1)) <|
 j70 ((y50.1, y50.2.1, y50.2.2), (y51.1, y51.2.1, y51.2.2), y52, (y53.1, y53.2.1 ++ [(y56.1, y56.2.1, y56.2.2)], y53.2.2), (y54.1, y54.2), y55, y57, y58, y59)
 else
 j70 ((y50.1, y50.2.1, y50.2.2), (y51.1, y51.2.1, y51.2.2), y52, (y53.1, y53.2.1, y53.2.2), (y54.1, y54.2), y55, y57, y58, y59)) fun j71 =>
 bif r48.2 then
 bif decide (r49.1 = 1) then
 bnd (X1 y38.1 (r48.1.1, r48.1.2.1, r48.1.2.2)) fun r72 =>
 j71 ((y38.1, y38.2.1, y38.2.2), (y39.1, y39.2.1, y39.2.2), y40, (y41.1, y41.2.1, y41.2.2), (y42.1, y42.2), y43, (r48.1.1, r48.1.2.1, r48.1.2.2), y44, y45, y46, r72)
 else
 j71 ((y38.1, y38.2.1, y38.2.2), (y39.1, y39.2.1, y39.2.2), y40, (y41.1, y41.2.1, y41.2.2), (y42.1, y42.2), y43, (r48.1.1, r48.1.2.1, r48.1.2.2), y44, y45, y46, false)
 else
 j71 ((y38.1, y38.2.1, y38.2.2), (y39.1, y39.2.1, y39.2.2), y40, (y41.1, y41.2.1, y41.2.2), (y42.1, y42.2), y43, (r48.1.1, r48.1.2.1, r48.1.2.2), y44, y45, y46, false)) fun j73 =>
 bif !(toT Bool (lkM (.pair (.int .i64) (.int .i64)) .bool x21 (x23.1, x24))) then
 j73 ((x19.1, x19.2.1, x19.2.2), (x20.1, x20.2.1, x20.2.2), x21, (x22.1, x22.2.1, x22.2.2), (x23.1, x23.2), x24, x25, x26, x27, true)
 else
 j73 ((x19.1, x19.2.1, x19.2.2), (x20.1, x20.2.1, x20.2.2), x21, (x22.1, x22.2.1, x22.2.2), (x23.1, x23.2), x24, x25, x26, x27, !(toT Bool (lkM (.pair (.int .i64) (.int .i64)) .bool x21 (x23.2, x24))))
 else
 next10 ((x19.1, x19.2.1, x19.2.2), (x20.1, x20.2.1, x20.2.2), x21, (x22.1, x22.2.1, x22.2.2), x25, x26, w64 (x27 + 1))) k ((x11.1, x11.2.1, x11.2.2), (x12.1, x12.2.1, x12.2.2), x13, (x14.1, x14.2.1, x14.2.2), ((rdD (0, 0) x15 x17).1, (rdD (0, 0) x15 x17).2), w64 ((rdD (0, 0) x15 x17).2 + 1), x15, x16, x17)
 else
 gd (few x14.2.1.length) <|
 some ((x14.1, YA KK x14.2.1, x14.2.2), 0)) k ((x2.1, x2.2.1, x2.2.2), (x3.1, x3.2.1, x3.2.2), x5, (x2.1, [], r9), x4, (x4.length : Int), 0)) k ((a0.1, a0.2.1, a0.2.2), ([], [], []), r0.1, [], r0.1, (r0.1.length : Int), 0)
theorem zmK (k:Nat) (qV:TPl→Option (LPt×Int)) (Qa:TPl→Option LPt) (QP:LPt→Int→Int→Int→Option ((Int×PPt)×Bool)) (K9:LPt→LPt→Int→Int→Int→Option PPt) (X1:LPt→(Int×PPt)→Option Bool) (a0:TPl):zN [⟨56,[],[],fun _=>none,some (.srt (.pair kI kPP) 57 KK)⟩,⟨13,[.d kPl],[.sl kPP,kI],fun x=>qV x,none⟩,⟨46,[.d kPl],[.sl kPP],fun x=>Qa x,none⟩,⟨40,[.d kLP,.d kI,.d kI,.d kI],[.pair kI kPP,.bool],fun x=>QP (x.1) (x.2.1) (x.2.2.1) (x.2.2.2),none⟩,⟨54,[.d kLP,.d kLP,.d kI,.d kI,.d kI],[kI,kI],fun x=>K9 (x.1) (x.2.1) (x.2.2.1) (x.2.2.2.1) (x.2.2.2.2),none⟩,⟨55,[.d kLP,.d (.pair kI kPP)],[.bool],fun x=>X1 (x.1) (x.2),none⟩] tbm k Tryz.f15 zg2 [.d kPl] [.pair kLP (.pair (.sl (.pair kI kPP)) kLP),kI] a0=zeo k qV Qa QP K9 X1 a0:=by kernel_rfl
def ZB (k:Nat) (a0:TPl):Option (TMs×Int):=zeo k (jl k) (Zy k) (ZE k) (Za k) (Zr k) a0
theorem zc7 (k:Nat):zv Tryz.prog 15 [.d kPl] [.pair kLP (.pair (.sl (.pair kI kPP)) kLP),kI] (fun x=>ZB k x):=fun x y h=>zg zyN mix (zp.cons (ze.sort zye) (zp.cons (ze.of rfl (YP k)) (zp.cons (ze.of rfl (zgB k)) (zp.cons (ze.of rfl (zd9 k)) (zp.cons (ze.of rfl (zfY k)) (zp.cons (ze.of rfl (zhG k)) (zp.nil _))))))) Tryz.func15 (N:=k) (an:=zg2) (by kernel_rfl) x y ((zmK k (jl k) (Zy k) (ZE k) (Za k) (Zr k) x).trans h)
end
end Go.Proofs.YtpkkcjmblocjdaaGreat.AM
