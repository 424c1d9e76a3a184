/- The functions, by their texts: written by a program. -/
import Derived.Test.YtpkkcjmblocjdaaGreatGa4
import Derived.Test.YtpkkcjmblocjdaaGreatCln
set_option linter.unusedVariables false
set_option linter.unusedSimpArgs false
set_option linter.unusedSectionVars false
set_option maxRecDepth 100000
namespace Go.Proofs.YtpkkcjmblocjdaaGreat.AM
open Go.RowKit Go.Proofs
noncomputable section
def J9:Ann:=uNn uLf (uNn uLf (uNn (uNn uLf (uNn (.node none (some [(0,.d kLP),(1,.d kLP),(5,.d kI)]) uLf uLf) uLf)) uLf))
def qK (k : Nat) (a0 : LPt) (a1 : LPt) : Option Bool :=
 bif !(decide ((a0.length : Int) = (a1.length : Int))) then
 some false
 else
 zA (α := (LPt × (LPt × Int))) (fun (x1, x2, x3) next0 =>
 bif decide (x3 < (x1.length : Int)) then
 gd (inb x3 x1.length) <|
 gd (inb x3 x2.length) <|
 bif !((decide ((rdD (0, 0) x1 x3).1 = (rdD (0, 0) x2 x3).1)) && (decide ((rdD (0, 0) x1 x3).2 = (rdD (0, 0) x2 x3).2))) then
 some false
 else
 next0 (x1, x2, w64 (x3 + 1))
 else
 some true) k (a0, a1, 0)
theorem zbj (k:Nat) (a0:LPt) (a1:LPt):zN [] tb k Tryz.f17 J9 [.d kLP,.d kLP] [.bool] (a0,a1)=qK k a0 a1:=by kernel_rfl
theorem XY (k:Nat):zv Tryz.prog 17 [.d kLP,.d kLP] [.bool] (fun x=>qK k (x.1) (x.2)):=fun x y h=>zg zO mix (zp.nil _) Tryz.func17 (N:=k) (an:=J9) (by kernel_rfl) x y ((zbj k (x.1) (x.2)).trans h)
def J5:Ann:=uNn uLf (uNn uLf (uNn (uNn uLf (uNn (.node none (some [(0,.d (.sl (.pair kI kPP))),(1,.d (.sl (.pair kI kPP))),(5,.d kI)]) uLf uLf) uLf)) uLf))
def qJ (k : Nat) (a0 : LTr) (a1 : LTr) : Option Bool :=
 bif !(decide ((a0.length : Int) = (a1.length : Int))) then
 some false
 else
 zA (α := (LTr × (LTr × Int))) (fun (x1, x2, x3) next0 =>
 bif decide (x3 < (x1.length : Int)) then
 gd (inb x3 x1.length) <|
 gd (inb x3 x2.length) <|
 bif !((decide ((rdD (0, 0, 0) x1 x3).1 = (rdD (0, 0, 0) x2 x3).1)) && ((decide ((rdD (0, 0, 0) x1 x3).2.1 = (rdD (0, 0, 0) x2 x3).2.1)) && (decide ((rdD (0, 0, 0) x1 x3).2.2 = (rdD (0, 0, 0) x2 x3).2.2)))) then
 some false
 else
 next0 (x1, x2, w64 (x3 + 1))
 else
 some true) k (a0, a1, 0)
theorem zbc (k:Nat) (a0:LTr) (a1:LTr):zN [] tb k Tryz.f44 J5 [.d (.sl (.pair kI kPP)),.d (.sl (.pair kI kPP))] [.bool] (a0,a1)=qJ k a0 a1:=by kernel_rfl
theorem X4 (k:Nat):zv Tryz.prog 44 [.d (.sl (.pair kI kPP)),.d (.sl (.pair kI kPP))] [.bool] (fun x=>qJ k (x.1) (x.2)):=fun x y h=>zg zO mix (zp.nil _) Tryz.func44 (N:=k) (an:=J5) (by kernel_rfl) x y ((zbc k (x.1) (x.2)).trans h)
def zfF:Ann:=uLf
def JR (k : Nat) (a0 : (Int × PPt)) : Option (PPt × (PPt × PPt)) :=
 some ((a0.1, a0.2.1), (a0.2.1, a0.2.2), a0.2.2, a0.1)
theorem zkP (k:Nat) (a0:(Int×PPt)):zN [] tb k Tryz.f60 zfF [.d (.pair kI kPP)] [.pair kPP (.pair kPP kPP)] a0=JR k a0:=by kernel_rfl
theorem zhE (k:Nat):zv Tryz.prog 60 [.d (.pair kI kPP)] [.pair kPP (.pair kPP kPP)] (fun x=>JR k x):=fun x y h=>zg zO mix (zp.nil _) Tryz.func60 (N:=k) (an:=zfF) (by kernel_rfl) x y ((zkP k x).trans h)
def zfv:Ann:=uNn uLf (uNn uLf (uNn (uNn uLf (uNn (.node none (some [(1,.box [.d (.pair kLP (.pair (.sl (.pair kI kPP)) kLP))]),(3,.mp kPP .bool),(16,.d (.sl (.pair kI kPP))),(17,.d kI),(18,.d kI)]) (uNn uLf (uNn uLf (uNn (uNn (uNn uLf (uNn (uNn uLf (uNn (.node (some [(1,.box [.d (.pair kLP (.pair (.sl (.pair kI kPP)) kLP))]),(3,.mp kPP .bool),(5,.box [.d (.pair kI kPP)]),(16,.d (.sl (.pair kI kPP))),(17,.d kI),(18,.d kI),(56,.d .bool)]) none uLf uLf) uLf)) (uNn uLf (uNn (.node none (some [(1,.box [.d (.pair kLP (.pair (.sl (.pair kI kPP)) kLP))]),(3,.mp kPP .bool),(16,.d (.sl (.pair kI kPP))),(17,.d kI),(18,.d kI),(58,.d (.pair kPP (.pair kPP kPP))),(59,.d kI)]) (uNn uLf (uNn uLf (uNn (uNn (uNn (.node (some [(1,.box [.d (.pair kLP (.pair (.sl (.pair kI kPP)) kLP))]),(3,.mp kPP .bool),(9,.box [.d kPP]),(16,.d (.sl (.pair kI kPP))),(17,.d kI),(18,.d kI),(58,.d (.pair kPP (.pair kPP kPP))),(59,.d kI)]) none uLf uLf) uLf) uLf) uLf))) uLf) uLf)))) uLf) uLf))) uLf) uLf)) (uNn uLf (uNn (uNn uLf (uNn (.node none (some [(1,.box [.d (.pair kLP (.pair (.sl (.pair kI kPP)) kLP))]),(3,.mp kPP .bool),(10,.mp kPP .bool),(71,.d kLP),(72,.d kI),(73,.d kI)]) (uNn uLf (uNn uLf (uNn (uNn (uNn uLf (uNn (uNn (.node (some [(1,.box [.d (.pair kLP (.pair (.sl (.pair kI kPP)) kLP))]),(3,.mp kPP .bool),(10,.mp kPP .bool),(12,.box [.d kPP]),(71,.d kLP),(72,.d kI),(73,.d kI),(113,.d .bool)]) none uLf uLf) uLf) uLf)) uLf) uLf))) uLf) uLf)) (uNn (uNn uLf (uNn (.node none (some [(3,.mpf kPP .bool),(10,.mp kPP .bool),(118,.it kPP .bool)]) (uNn uLf (uNn uLf (uNn (uNn uLf (uNn (.node (some [(3,.d (.mp kPP .bool)),(10,.mp kPP .bool),(118,.it kPP .bool),(137,.d .bool)]) none uLf uLf) uLf)) uLf))) uLf) uLf)) uLf)))))
def zcF (k : Nat) (QP : LPt → Int → Int → Int → Option ((Int × PPt) × Bool)) (XQ : (Int × PPt) → (Int × PPt) → Option Int) (XX : (Int × PPt) → Option (PPt × (PPt × PPt))) (XL : PPt → PPt → Option Int) (ZU : PPt → Option PPt) (a0 : TMs) : Option Int :=
 zA (α := (TMs × ((List (PPt × Bool)) × (LTr × PPt)))) (fun (x1, x2, x3, x4, x5) next0 =>
 bif decide (x5 < x4) then
 gd (inb x5 x3.length) <|
 bnd (QP x1.1 (rdD (0, 0, 0) x3 x5).1 (rdD (0, 0, 0) x3 x5).2.1 (rdD (0, 0, 0) x3 x5).2.2) fun r6 =>
 zz (α := (TMs × ((List (PPt × Bool)) × ((Int × PPt) × (LTr × (Int × (Int × Bool))))))) (fun (y7, y8, y9, y10, y11, y12, y13) =>
 bif y13 then
 some 2
 else
 bnd (XX (y9.1, y9.2.1, y9.2.2)) fun r14 =>
 zA (α := (TMs × ((List (PPt × Bool)) × (LTr × (Int × (Int × ((PPt × (PPt × PPt)) × Int))))))) (fun (x16, x17, x18, x19, x20, x21, x22) next15 =>
 bif decide (x22 < 3) then
 zz (α := (TMs × ((List (PPt × Bool)) × (PPt × (LTr × (Int × (Int × ((PPt × (PPt × PPt)) × Int)))))))) (fun (y23, y24, y25, y26, y27, y28, y29, y30) =>
 bif toT Bool (lkM (.pair (.int .i64) (.int .i64)) .bool y24 (y25.1, y25.2)) then
 some 2
 else
 gd (!(hsM (.pair (.int .i64) (.int .i64)) .bool y24 (y25.1, y25.2))) <|
 next15 ((y23.1, y23.2.1, y23.2.2), adM (.pair (.int .i64) (.int .i64)) .bool y24 (y25.1, y25.2) true, y26, y27, y28, ((y29.1.1, y29.1.2), (y29.2.1.1, y29.2.1.2), y29.2.2.1, y29.2.2.2), w64 (y30 + 1))) fun j31 =>
 bif decide (x22 = 0) then
 j31 ((x16.1, x16.2.1, x16.2.2), x17, (x21.1.1, x21.1.2), x18, x19, x20, ((x21.1.1, x21.1.2), (x21.2.1.1, x21.2.1.2), x21.2.2.1, x21.2.2.2), x22)
 else
 bif decide (x22 = 1) then
 j31 ((x16.1, x16.2.1, x16.2.2), x17, (x21.2.1.1, x21.2.1.2), x18, x19, x20, ((x21.1.1, x21.1.2), (x21.2.1.1, x21.2.1.2), x21.2.2.1, x21.2.2.2), x22)
 else
 bif decide (x22 = 2) then
 j31 ((x16.1, x16.2.1, x16.2.2), x17, (x21.2.2.1, x21.2.2.2), x18, x19, x20, ((x21.1.1, x21.1.2), (x21.2.1.1, x21.2.1.2), x21.2.2.1, x21.2.2.2), x22)
 else
 none
 else
 next0 ((x16.1, x16.2.1, x16.2.2), x17, x18, x19, w64 (x20 + 1))) k ((y7.1, y7.2.1, y7.2.2), y8, y10, y11, y12, ((r14.1.1, r14.1.2), (r14.2.1.1, r14.2.1.2), r14.2.2.1, r14.2.2.2), 0)) fun j32 =>
 bif !r6.2 then
 j32 ((x1.1, x1.2.1, x1.2.2), x2, ((rdD (0, 0, 0) x3 x5).1, (rdD (0, 0, 0) x3 x5).2.1, (rdD (0, 0, 0) x3 x5).2.2), x3, x4, x5, true)
 else
 bif !((decide (r6.1.1 = (rdD (0, 0, 0) x3 x5).1)) && ((decide (r6.1.2.1 = (rdD (0, 0, 0) x3 x5).2.1)) && (decide (r6.1.2.2 = (rdD (0, 0, 0) x3 x5).2.2)))) then
 j32 ((x1.1, x1.2.1, x1.2.2), x2, ((rdD (0, 0, 0) x3 x5).1, (rdD (0, 0, 0) x3 x5).2.1, (rdD (0, 0, 0) x3 x5).2.2), x3, x4, x5, true)
 else
 bif decide (x5 > 0) then
 gd (inb (w64 (x5 - 1)) x1.2.1.length) <|
 bnd (XQ ((rdD (0, 0, 0) x1.2.1 (w64 (x5 - 1))).1, (rdD (0, 0, 0) x1.2.1 (w64 (x5 - 1))).2.1, (rdD (0, 0, 0) x1.2.1 (w64 (x5 - 1))).2.2) ((rdD (0, 0, 0) x3 x5).1, (rdD (0, 0, 0) x3 x5).2.1, (rdD (0, 0, 0) x3 x5).2.2)) fun r33 =>
 j32 ((x1.1, x1.2.1, x1.2.2), x2, ((rdD (0, 0, 0) x3 x5).1, (rdD (0, 0, 0) x3 x5).2.1, (rdD (0, 0, 0) x3 x5).2.2), x3, x4, x5, decide (r33 ≥ 0))
 else
 j32 ((x1.1, x1.2.1, x1.2.2), x2, ((rdD (0, 0, 0) x3 x5).1, (rdD (0, 0, 0) x3 x5).2.1, (rdD (0, 0, 0) x3 x5).2.2), x3, x4, x5, false)
 else
 zA (α := (TMs × ((List (PPt × Bool)) × ((List (PPt × Bool)) × (LPt × PPt))))) (fun (x35, x36, x37, x38, x39, x40) next34 =>
 bif decide (x40 < x39) then
 gd (inb x40 x38.length) <|
 zz (α := (TMs × ((List (PPt × Bool)) × ((List (PPt × Bool)) × (PPt × (LPt × (Int × (Int × Bool)))))))) (fun (y41, y42, y43, y44, y45, y46, y47, y48) =>
 bif y48 then
 some 2
 else
 gd (!(hsM (.pair (.int .i64) (.int .i64)) .bool y43 (y44.1, y44.2))) <|
 next34 ((y41.1, y41.2.1, y41.2.2), y42, adM (.pair (.int .i64) (.int .i64)) .bool y43 (y44.1, y44.2) true, y45, y46, w64 (y47 + 1))) fun j49 =>
 bif decide ((rdD (0, 0) x38 x40).1 ≥ (rdD (0, 0) x38 x40).2) then
 j49 ((x35.1, x35.2.1, x35.2.2), x36, x37, ((rdD (0, 0) x38 x40).1, (rdD (0, 0) x38 x40).2), x38, x39, x40, true)
 else
 bif decide (x40 > 0) then
 gd (inb (w64 (x40 - 1)) x35.2.2.length) <|
 bnd (XL ((rdD (0, 0) x35.2.2 (w64 (x40 - 1))).1, (rdD (0, 0) x35.2.2 (w64 (x40 - 1))).2) ((rdD (0, 0) x38 x40).1, (rdD (0, 0) x38 x40).2)) fun r50 =>
 bif decide (r50 ≥ 0) then
 j49 ((x35.1, x35.2.1, x35.2.2), x36, x37, ((rdD (0, 0) x38 x40).1, (rdD (0, 0) x38 x40).2), x38, x39, x40, true)
 else
 bif !(toT Bool (lkM (.pair (.int .i64) (.int .i64)) .bool x36 ((rdD (0, 0) x38 x40).1, (rdD (0, 0) x38 x40).2))) then
 j49 ((x35.1, x35.2.1, x35.2.2), x36, x37, ((rdD (0, 0) x38 x40).1, (rdD (0, 0) x38 x40).2), x38, x39, x40, !(toT Bool (lkM (.pair (.int .i64) (.int .i64)) .bool x36 ((rdD (0, 0) x38 x40).2, (rdD (0, 0) x38 x40).1))))
 else
 j49 ((x35.1, x35.2.1, x35.2.2), x36, x37, ((rdD (0, 0) x38 x40).1, (rdD (0, 0) x38 x40).2), x38, x39, x40, false)
 else
 bif !(toT Bool (lkM (.pair (.int .i64) (.int .i64)) .bool x36 ((rdD (0, 0) x38 x40).1, (rdD (0, 0) x38 x40).2))) then
 j49 ((x35.1, x35.2.1, x35.2.2), x36, x37, ((rdD (0, 0) x38 x40).1, (rdD (0, 0) x38 x40).2), x38, x39, x40, !(toT Bool (lkM (.pair (.int .i64) (.int .i64)) .bool x36 ((rdD (0, 0) x38 x40).2, (rdD (0, 0) x38 x40).1))))
 else
 j49 ((x35.1, x35.2.1, x35.2.2), x36, x37, ((rdD (0, 0) x38 x40).1, (rdD (0, 0) x38 x40).2), x38, x39, x40, false)
 else
 zA (α := ((List (PPt × Bool)) × ((List (PPt × Bool)) × (List (PPt × Bool))))) (fun (x52, x53, x54) next51 =>
 nxt x54 (
 some 0) (fun (e56, e57) r55 =>
 zz (α := ((List (PPt × Bool)) × ((List (PPt × Bool)) × ((List (PPt × Bool)) × Bool)))) (fun (y58, y59, y60, y61) =>
 bif y61 then
 some 2
 else
 next51 (y58, y59, y60)) fun j62 =>
 bif !(toT Bool (lkM (.pair (.int .i64) (.int .i64)) .bool x52 (e56.2, e56.1))) then
 bnd (ZU (e56.1, e56.2)) fun r63 =>
 j62 (x52, x53, r55, !(toT Bool (lkM (.pair (.int .i64) (.int .i64)) .bool x53 (r63.1, r63.2))))
 else
 j62 (x52, x53, r55, false))) k (x36, x37, x36)) k ((x1.1, x1.2.1, x1.2.2), x2, [], x1.2.2, (x1.2.2.length : Int), 0)) k ((a0.1, a0.2.1, a0.2.2), [], a0.2.1, (a0.2.1.length : Int), 0)
theorem zlh (k:Nat) (QP:LPt→Int→Int→Int→Option ((Int×PPt)×Bool)) (XQ:(Int×PPt)→(Int×PPt)→Option Int) (XX:(Int×PPt)→Option (PPt×(PPt×PPt))) (XL:PPt→PPt→Option Int) (ZU:PPt→Option PPt) (a0:TMs):zN [⟨40,[.d kLP,.d kI,.d kI,.d kI],[.pair kI kPP,.bool],fun x=>QP (x.1) (x.2.1) (x.2.2.1) (x.2.2.2),none⟩,⟨57,[.d (.pair kI kPP),.d (.pair kI kPP)],[kI],fun x=>XQ (x.1) (x.2),none⟩,⟨60,[.d (.pair kI kPP)],[.pair kPP (.pair kPP kPP)],fun x=>XX x,none⟩,⟨49,[.d kPP,.d kPP],[kI],fun x=>XL (x.1) (x.2),none⟩,⟨61,[.d kPP],[.pair kI kI],fun x=>ZU x,none⟩] tb k Tryz.f21 zfv [.d (.pair kLP (.pair (.sl (.pair kI kPP)) kLP))] [kI] a0=zcF k QP XQ XX XL ZU a0:=by kernel_rfl
def KR (k:Nat) (a0:TMs):Option Int:=zcF k (ZE k) (QQ k) (JR k) (Z3 k) (Q3 k) a0
theorem zhX (k:Nat):zv Tryz.prog 21 [.d (.pair kLP (.pair (.sl (.pair kI kPP)) kLP))] [kI] (fun x=>KR k x):=fun x y h=>zg zO mix (zp.cons (ze.of rfl (zd9 k)) (zp.cons (ze.of rfl (zcc k)) (zp.cons (ze.of rfl (zhE k)) (zp.cons (ze.of rfl (zce k)) (zp.cons (ze.of rfl (zbd k)) (zp.nil _)))))) Tryz.func21 (N:=k) (an:=zfv) (by kernel_rfl) x y ((zlh k (ZE k) (QQ k) (JR k) (Z3 k) (Q3 k) x).trans h)
def Yw:Ann:=uNn uLf (uNn uLf (uNn uLf (uNn uLf (uNn uLf (uNn (.node (some [(0,.d .bool)]) none uLf uLf) uLf)))))
def JB (k : Nat) (qV : TPl → Option (LPt × Int)) (Zz : TPl → Option (TMs × Int)) (Zg : LPt → LPt → Option Bool) (Zf : LTr → LTr → Option Bool) (XV : TMs → Option Int) : Option Bool :=
 bnd (qV ([(0, 0), (4, 0), (4, 4), (0, 4)], [(0, 1), (1, 2), (2, 3), (3, 0)], [])) fun r0 =>
 bnd (Zz ([(0, 0), (4, 0), (4, 4), (0, 4)], [(0, 1), (1, 2), (2, 3), (3, 0)], [])) fun r1 =>
 bnd (Zz ([], [], [])) fun r2 =>
 zz (α := Bool) (fun y3 =>
 some y3) fun j4 =>
 bnd (Zg r0.1 [(0, 1), (0, 2), (0, 3), (1, 2), (2, 3)]) fun r5 =>
 bif r5 then
 bif decide (r0.2 = 0) then
 bnd (Zf r1.1.2.1 [(0, 1, 2), (0, 2, 3)]) fun r6 =>
 bif r6 then
 bif decide (r1.2 = 0) then
 bnd (XV (r1.1.1, r1.1.2.1, r1.1.2.2)) fun r7 =>
 bif decide (r7 = 0) then
 j4 (decide (r2.2 = 2))
 else
 j4 false
 else
 j4 false
 else
 j4 false
 else
 j4 false
 else
 j4 false
theorem zdq (k:Nat) (qV:TPl→Option (LPt×Int)) (Zz:TPl→Option (TMs×Int)) (Zg:LPt→LPt→Option Bool) (Zf:LTr→LTr→Option Bool) (XV:TMs→Option Int):zN [⟨13,[.d kPl],[.sl kPP,kI],fun x=>qV x,none⟩,⟨15,[.d kPl],[.pair kLP (.pair (.sl (.pair kI kPP)) kLP),kI],fun x=>Zz x,none⟩,⟨17,[.d kLP,.d kLP],[.bool],fun x=>Zg (x.1) (x.2),none⟩,⟨44,[.d (.sl (.pair kI kPP)),.d (.sl (.pair kI kPP))],[.bool],fun x=>Zf (x.1) (x.2),none⟩,⟨21,[.d (.pair kLP (.pair (.sl (.pair kI kPP)) kLP))],[kI],fun x=>XV x,none⟩] tbx k Tryz.f11 Yw [] [.bool] ()=JB k qV Zz Zg Zf XV:=by kernel_rfl
def ju (k:Nat):Option Bool:=JB k (jl k) (ZB k) (qK k) (qJ k) (KR k)
theorem zbn (k:Nat):zv Tryz.prog 11 [] [.bool] (fun x=>ju k):=fun x y h=>zg zu7 mix (zp.cons (ze.of rfl (YP k)) (zp.cons (ze.of rfl (zc7 k)) (zp.cons (ze.of rfl (XY k)) (zp.cons (ze.of rfl (X4 k)) (zp.cons (ze.of rfl (zhX k)) (zp.nil _)))))) Tryz.func11 (N:=k) (an:=Yw) (by kernel_rfl) x y ((zdq k (jl k) (ZB k) (qK k) (qJ k) (KR k)).trans h)
def Xa:Ann:=uNn uLf (uNn (.node (some [(2,.d .bool)]) none uLf uLf) uLf)
def zW (k : Nat) (a0 : PPt) : Option Bool :=
 zz (α := Bool) (fun y0 =>
 some y0) fun j1 =>
 bif decide (a0.1 ≥ (-4294967296)) then
 bif decide (a0.1 ≤ 4294967296) then
 bif decide (a0.2 ≥ (-4294967296)) then
 j1 (decide (a0.2 ≤ 4294967296))
 else
 j1 false
 else
 j1 false
 else
 j1 false
theorem zeI (k:Nat) (a0:PPt):zN [] tb k Tryz.f72 Xa [.d kPP] [.bool] a0=zW k a0:=by kernel_rfl
theorem jt (k:Nat):zv Tryz.prog 72 [.d kPP] [.bool] (fun x=>zW k x):=fun x y h=>zg zO mix (zp.nil _) Tryz.func72 (N:=k) (an:=Xa) (by kernel_rfl) x y ((zeI k x).trans h)
def Xp:Ann:=uNn uLf (uNn uLf (uNn (uNn (.node none (some [(0,.d .bool),(1,.d (.sl kI)),(4,.box [.d .bool,.row kI 3]),(5,.d kI)]) (uNn (uNn (.node (some [(0,.d .bool),(1,.d (.sl kI)),(4,.box [.d .bool,.row kI 3]),(5,.d kI),(17,.d .bool)]) none uLf uLf) uLf) uLf) uLf) uLf) (uNn (.node (some [(4,.box [.d (.pair .bool (.sl kI))])]) none uLf uLf) uLf)))
def zu (k : Nat) (a0 : Bool) (a1 : (List Int)) : Option (Bool × (List Int)) :=
 zA (α := (Bool × ((List Int) × ((Bool × (List Int)) × Int)))) (fun (x1, x2, x3, x4) next0 =>
 zz (α := (Bool × ((List Int) × ((Bool × (List Int)) × (Int × Bool))))) (fun (y5, y6, y7, y8, y9) =>
 bif y9 then
 next0 (y5, y6, (y7.1, y7.2), w64 (y8 - 1))
 else
 zz (α := (Bool × (List Int))) (fun (y10, y11) =>
 some (y10, y11)) fun j12 =>
 bif y5 then
 gd (decide (0 ≤ y8)) <|
 gd (decide (y8 ≤ (y6.length : Int))) <|
 j12 (decide (y8 > 0), tkL y6 y8)
 else
 gd (decide (0 ≤ y8)) <|
 gd (decide (y8 ≤ (y6.length : Int))) <|
 j12 (false, tkL y6 y8)) fun j13 =>
 bif decide (x4 > 0) then
 gd (inb (w64 (x4 - 1)) x2.length) <|
 j13 (x1, x2, (x3.1, x3.2), x4, decide ((rdD 0 x2 (w64 (x4 - 1))) = 0))
 else
 j13 (x1, x2, (x3.1, x3.2), x4, false)) k (a0, a1, (false, []), (a1.length : Int))
theorem zei (k:Nat) (a0:Bool) (a1:(List Int)):zN [] tb k Tryz.f98 Xp [.d .bool,.d (.sl kI)] [.pair .bool (.sl kI)] (a0,a1)=zu k a0 a1:=by kernel_rfl
theorem QE (k:Nat):zv Tryz.prog 98 [.d .bool,.d (.sl kI)] [.pair .bool (.sl kI)] (fun x=>zu k (x.1) (x.2)):=fun x y h=>zg zO mix (zp.nil _) Tryz.func98 (N:=k) (an:=Xp) (by kernel_rfl) x y ((zei k (x.1) (x.2)).trans h)
def Yt:Ann:=uNn uLf (uNn uLf (uNn uLf (uNn (uNn (.node none (some [(0,.d kI),(2,.box [.d .bool,.row kI 3]),(3,.row kI 3),(4,.d kI)]) (uNn uLf (uNn (uNn uLf (uNn (uNn uLf (.node (some [(0,.d kI),(2,.box [.d .bool,.row kI 3]),(3,.row kI 3),(4,.d kI),(5,.d kI)]) none uLf uLf)) uLf)) uLf)) uLf) uLf) uLf)))
def Qb (k : Nat) (zZ : Bool → (List Int) → Option (Bool × (List Int))) (a0 : Int) : Option (Bool × (List Int)) :=
 zA (α := (Int × ((Bool × (List Int)) × ((List Int) × Int)))) (fun (x1, x2, x3, x4) next0 =>
 bif !(decide (x4 = 0)) then
 zz (α := (Int × ((Bool × (List Int)) × ((List Int) × PPt)))) (fun (y5, y6, y7, y8, y9) =>
 gd (few (y7.length + 1)) <|
 next0 (y5, (y6.1, y6.2), y7 ++ [y9], w64 (y8.tdiv 65536))) fun j10 =>
 bif decide ((x4.tmod 65536) < 0) then
 j10 (x1, (x2.1, x2.2), x3, x4, w64 (0 - (x4.tmod 65536)))
 else
 j10 (x1, (x2.1, x2.2), x3, x4, x4.tmod 65536)
 else
 bnd (zZ (decide (x1 < 0)) x3) fun r11 =>
 some (r11.1, r11.2)) k (a0, (false, []), [], a0)
theorem zdz (k:Nat) (zZ:Bool→(List Int)→Option (Bool×(List Int))) (a0:Int):zN [⟨98,[.d .bool,.d (.sl kI)],[.pair .bool (.sl kI)],fun x=>zZ (x.1) (x.2),none⟩] tb k Tryz.f102 Yt [.d kI] [.pair .bool (.sl kI)] a0=Qb k zZ a0:=by kernel_rfl
def zI (k:Nat) (a0:Int):Option (Bool×(List Int)):=Qb k (zu k) a0
theorem Qp (k:Nat):zv Tryz.prog 102 [.d kI] [.pair .bool (.sl kI)] (fun x=>zI k x):=fun x y h=>zg zO mix (zp.cons (ze.of rfl (QE k)) (zp.nil _)) Tryz.func102 (N:=k) (an:=Yt) (by kernel_rfl) x y ((zdz k (zu k) x).trans h)
def XI:Ann:=uLf
def Kz (k : Nat) (zF : Int → Option (Bool × (List Int))) (a0 : Int) : Option (Bool × (List Int)) :=
 bnd (zF a0) fun r0 =>
 some (r0.1, r0.2)
theorem zfd (k:Nat) (zF:Int→Option (Bool×(List Int))) (a0:Int):zN [⟨102,[.d kI],[.pair .bool (.sl kI)],fun x=>zF x,none⟩] tb k Tryz.f101 XI [.d kI] [.pair .bool (.sl kI)] a0=Kz k zF a0:=by kernel_rfl
def ZF (k:Nat) (a0:Int):Option (Bool×(List Int)):=Kz k (zI k) a0
theorem zcN (k:Nat):zv Tryz.prog 101 [.d kI] [.pair .bool (.sl kI)] (fun x=>ZF k x):=fun x y h=>zg zO mix (zp.cons (ze.of rfl (Qp k)) (zp.nil _)) Tryz.func101 (N:=k) (an:=XI) (by kernel_rfl) x y ((zfd k (zI k) x).trans h)
def Yk:Ann:=uLf
def qE (k : Nat) (a0 : (List Int)) (a1 : Int) : Option Int :=
 bif decide (a1 < (a0.length : Int)) then
 gd (inb a1 a0.length) <|
 some (rdD 0 a0 a1)
 else
 some 0
theorem zdE (k:Nat) (a0:(List Int)) (a1:Int):zN [] tb k Tryz.f97 Yk [.d (.sl kI),.d kI] [kI] (a0,a1)=qE k a0 a1:=by kernel_rfl
theorem J4 (k:Nat):zv Tryz.prog 97 [.d (.sl kI),.d kI] [kI] (fun x=>qE k (x.1) (x.2)):=fun x y h=>zg zO mix (zp.nil _) Tryz.func97 (N:=k) (an:=Yk) (by kernel_rfl) x y ((zdE k (x.1) (x.2)).trans h)
def JU:Ann:=uNn uLf (uNn uLf (uNn (uNn uLf (uNn (.node none (some [(2,.box [.d (.pair .bool (.sl kI))]),(3,.box [.d (.pair .bool (.sl kI))]),(4,.box [.d .bool,.row kI 3]),(5,.row kI 3),(6,.d kI)]) (uNn uLf (uNn (uNn (uNn uLf (uNn uLf (uNn (.node none (some [(2,.box [.d (.pair .bool (.sl kI))]),(3,.box [.d (.pair .bool (.sl kI))]),(4,.box [.d .bool,.row kI 3]),(5,.row kI 3),(6,.d kI),(7,.d kI),(8,.d kI)]) (uNn (uNn (.node (some [(2,.box [.d (.pair .bool (.sl kI))]),(3,.box [.d (.pair .bool (.sl kI))]),(4,.box [.d .bool,.row kI 3]),(5,.row kI 3),(6,.d kI),(7,.d kI),(8,.d kI),(34,.d .bool)]) none uLf uLf) uLf) uLf) uLf) uLf))) uLf) uLf)) uLf) uLf)) uLf))
def Qm (k : Nat) (qn : (List Int) → Int → Option Int) (zZ : Bool → (List Int) → Option (Bool × (List Int))) (a0 : (Bool × (List Int))) (a1 : (Bool × (List Int))) : Option (Bool × (List Int)) :=
 gd (decide (0 ≤ (w64 ((w64 ((a0.2.length : Int) + (a1.2.length : Int))) + 1)))) <|
 gd (zff (w64 ((w64 ((a0.2.length : Int) + (a1.2.length : Int))) + 1))) <|
 zA (α := ((Bool × (List Int)) × ((Bool × (List Int)) × ((Bool × (List Int)) × ((List Int) × Int))))) (fun (x1, x2, x3, x4, x5) next0 =>
 bif decide (x5 < (x1.2.length : Int)) then
 zA (α := ((Bool × (List Int)) × ((Bool × (List Int)) × ((Bool × (List Int)) × ((List Int) × (Int × PPt)))))) (fun (x7, x8, x9, x10, x11, x12, x13) next6 =>
 zz (α := ((Bool × (List Int)) × ((Bool × (List Int)) × ((Bool × (List Int)) × ((List Int) × (Int × (Int × (Int × Bool)))))))) (fun (y14, y15, y16, y17, y18, y19, y20, y21) =>
 bif y21 then
 gd (inb (w64 (y18 + y20)) y17.length) <|
 gd (inb y18 y14.2.length) <|
 bnd (qn y15.2 y20) fun r22 =>
 gd (inb (w64 (y18 + y20)) y17.length) <|
 next6 ((y14.1, y14.2), (y15.1, y15.2), (y16.1, y16.2), stL y17 (w64 (y18 + y20)) ((w64 ((w64 ((rdD 0 y17 (w64 (y18 + y20))) + (w64 ((rdD 0 y14.2 y18) * r22)))) + y19)).tmod 65536), y18, w64 ((w64 ((w64 ((rdD 0 y17 (w64 (y18 + y20))) + (w64 ((rdD 0 y14.2 y18) * r22)))) + y19)).tdiv 65536), w64 (y20 + 1))
 else
 next0 ((y14.1, y14.2), (y15.1, y15.2), (y16.1, y16.2), y17, w64 (y18 + 1))) fun j23 =>
 bif decide (x13 < (x8.2.length : Int)) then
 j23 ((x7.1, x7.2), (x8.1, x8.2), (x9.1, x9.2), x10, x11, x12, x13, true)
 else
 j23 ((x7.1, x7.2), (x8.1, x8.2), (x9.1, x9.2), x10, x11, x12, x13, decide (x12 > 0))) k ((x1.1, x1.2), (x2.1, x2.2), (x3.1, x3.2), x4, x5, 0, 0)
 else
 bnd (zZ (!(x1.1 == x2.1)) x4) fun r24 =>
 some (r24.1, r24.2)) k ((a0.1, a0.2), (a1.1, a1.2), (false, []), rpL (w64 ((w64 ((a0.2.length : Int) + (a1.2.length : Int))) + 1)) 0, 0)
theorem zaQ (k:Nat) (qn:(List Int)→Int→Option Int) (zZ:Bool→(List Int)→Option (Bool×(List Int))) (a0:(Bool×(List Int))) (a1:(Bool×(List Int))):zN [⟨97,[.d (.sl kI),.d kI],[kI],fun x=>qn (x.1) (x.2),none⟩,⟨98,[.d .bool,.d (.sl kI)],[.pair .bool (.sl kI)],fun x=>zZ (x.1) (x.2),none⟩] tb k Tryz.f103 JU [.d (.pair .bool (.sl kI)),.d (.pair .bool (.sl kI))] [.pair .bool (.sl kI)] (a0,a1)=Qm k qn zZ a0 a1:=by kernel_rfl
def zJ (k:Nat) (a0:(Bool×(List Int))) (a1:(Bool×(List Int))):Option (Bool×(List Int)):=Qm k (qE k) (zu k) a0 a1
theorem Zk (k:Nat):zv Tryz.prog 103 [.d (.pair .bool (.sl kI)),.d (.pair .bool (.sl kI))] [.pair .bool (.sl kI)] (fun x=>zJ k (x.1) (x.2)):=fun x y h=>zg zO mix (zp.cons (ze.of rfl (J4 k)) (zp.cons (ze.of rfl (QE k)) (zp.nil _))) Tryz.func103 (N:=k) (an:=JU) (by kernel_rfl) x y ((zaQ k (qE k) (zu k) (x.1) (x.2)).trans h)
def KG:Ann:=uNn uLf (uNn (.node (some [(2,.box [.d (.pair .bool (.sl kI))])]) none uLf uLf) uLf)
def ql (k : Nat) (a0 : (Bool × (List Int))) : Option (Bool × (List Int)) :=
 zz (α := (Bool × (List Int))) (fun (y0, y1) =>
 some (y0, y1)) fun j2 =>
 bif !a0.1 then
 j2 (decide ((a0.2.length : Int) > 0), a0.2)
 else
 j2 (false, a0.2)
theorem zbD (k:Nat) (a0:(Bool×(List Int))):zN [] tb k Tryz.f66 KG [.d (.pair .bool (.sl kI))] [.pair .bool (.sl kI)] a0=ql k a0:=by kernel_rfl
theorem Jp (k:Nat):zv Tryz.prog 66 [.d (.pair .bool (.sl kI))] [.pair .bool (.sl kI)] (fun x=>ql k x):=fun x y h=>zg zO mix (zp.nil _) Tryz.func66 (N:=k) (an:=KG) (by kernel_rfl) x y ((zbD k x).trans h)
def Xe:Ann:=uNn uLf (uNn uLf (uNn (uNn uLf (uNn (.node none (some [(0,.d (.sl kI)),(1,.d (.sl kI)),(5,.d kI)]) uLf uLf) uLf)) uLf))
def jL (k : Nat) (a0 : (List Int)) (a1 : (List Int)) : Option Int :=
 bif !(decide ((a0.length : Int) = (a1.length : Int))) then
 some (w64 ((a0.length : Int) - (a1.length : Int)))
 else
 zA (α := ((List Int) × ((List Int) × Int))) (fun (x1, x2, x3) next0 =>
 bif decide (x3 ≥ 0) then
 gd (inb x3 x1.length) <|
 gd (inb x3 x2.length) <|
 bif !(decide ((rdD 0 x1 x3) = (rdD 0 x2 x3))) then
 gd (inb x3 x1.length) <|
 gd (inb x3 x2.length) <|
 some (w64 ((rdD 0 x1 x3) - (rdD 0 x2 x3)))
 else
 next0 (x1, x2, w64 (x3 - 1))
 else
 some 0) k (a0, a1, w64 ((a0.length : Int) - 1))
theorem zej (k:Nat) (a0:(List Int)) (a1:(List Int)):zN [] tb k Tryz.f99 Xe [.d (.sl kI),.d (.sl kI)] [kI] (a0,a1)=jL k a0 a1:=by kernel_rfl
theorem zb7 (k:Nat):zv Tryz.prog 99 [.d (.sl kI),.d (.sl kI)] [kI] (fun x=>jL k (x.1) (x.2)):=fun x y h=>zg zO mix (zp.nil _) Tryz.func99 (N:=k) (an:=Xe) (by kernel_rfl) x y ((zej k (x.1) (x.2)).trans h)
def Kg:Ann:=uNn uLf (uNn uLf (uNn uLf (uNn (uNn uLf (uNn (uNn (uNn uLf (uNn (.node none (some [(2,.box [.d (.pair .bool (.sl kI))]),(3,.box [.d (.pair .bool (.sl kI))]),(4,.box [.d .bool,.row kI 3]),(5,.row kI 3),(6,.d kI),(7,.d kI)]) (uNn (uNn (.node (some [(2,.box [.d (.pair .bool (.sl kI))]),(3,.box [.d (.pair .bool (.sl kI))]),(4,.box [.d .bool,.row kI 3]),(5,.row kI 3),(6,.d kI),(7,.d kI),(33,.d .bool)]) none uLf uLf) uLf) uLf) uLf) uLf)) uLf) uLf)) (uNn uLf (uNn uLf (uNn (uNn uLf (.node (some [(4,.box [.d .bool,.row kI 3]),(5,.row kI 3),(6,.d kI),(9,.box [.d (.pair .bool (.sl kI))]),(10,.box [.d (.pair .bool (.sl kI))])]) none uLf uLf)) (uNn (uNn uLf (uNn (.node none (some [(4,.box [.d .bool,.row kI 3]),(5,.row kI 3),(6,.d kI),(9,.box [.d (.pair .bool (.sl kI))]),(10,.box [.d (.pair .bool (.sl kI))]),(11,.d kI)]) (uNn uLf (uNn (uNn (uNn uLf (uNn uLf (uNn (uNn uLf (.node (some [(4,.box [.d .bool,.row kI 3]),(5,.row kI 3),(6,.d kI),(9,.box [.d (.pair .bool (.sl kI))]),(10,.box [.d (.pair .bool (.sl kI))]),(11,.d kI),(12,.d kI)]) none uLf uLf)) uLf))) uLf) uLf)) uLf) uLf)) uLf)))))))
def Ze (k : Nat) (qn : (List Int) → Int → Option Int) (zZ : Bool → (List Int) → Option (Bool × (List Int))) (Qy : (List Int) → (List Int) → Option Int) (a0 : (Bool × (List Int))) (a1 : (Bool × (List Int))) : Option (Bool × (List Int)) :=
 bif a0.1 == a1.1 then
 zA (α := ((Bool × (List Int)) × ((Bool × (List Int)) × ((Bool × (List Int)) × ((List Int) × PPt))))) (fun (x1, x2, x3, x4, x5, x6) next0 =>
 zz (α := ((Bool × (List Int)) × ((Bool × (List Int)) × ((Bool × (List Int)) × ((List Int) × (Int × (Int × Bool))))))) (fun (y7, y8, y9, y10, y11, y12, y13) =>
 bif y13 then
 bnd (qn y7.2 y12) fun r14 =>
 bnd (qn y8.2 y12) fun r15 =>
 gd (few (y10.length + 1)) <|
 next0 ((y7.1, y7.2), (y8.1, y8.2), (y9.1, y9.2), y10 ++ [(w64 ((w64 (r14 + r15)) + y11)).tmod 65536], w64 ((w64 ((w64 (r14 + r15)) + y11)).tdiv 65536), w64 (y12 + 1))
 else
 bnd (zZ y7.1 y10) fun r16 =>
 some (r16.1, r16.2)) fun j17 =>
 bif decide (x6 < (x1.2.length : Int)) then
 j17 ((x1.1, x1.2), (x2.1, x2.2), (x3.1, x3.2), x4, x5, x6, true)
 else
 bif decide (x6 < (x2.2.length : Int)) then
 j17 ((x1.1, x1.2), (x2.1, x2.2), (x3.1, x3.2), x4, x5, x6, true)
 else
 j17 ((x1.1, x1.2), (x2.1, x2.2), (x3.1, x3.2), x4, x5, x6, decide (x5 > 0))) k ((a0.1, a0.2), (a1.1, a1.2), (false, []), [], 0, 0)
 else
 bnd (Qy a0.2 a1.2) fun r18 =>
 zz (α := ((Bool × (List Int)) × ((List Int) × (Int × ((Bool × (List Int)) × (Bool × (List Int))))))) (fun (y19, y20, y21, y22, y23, y24) =>
 zA (α := ((Bool × (List Int)) × ((List Int) × (Int × ((Bool × (List Int)) × ((Bool × (List Int)) × Int)))))) (fun (x26, x27, x28, x29, x30, x31) next25 =>
 bif decide (x31 < (x29.2.length : Int)) then
 gd (inb x31 x29.2.length) <|
 bnd (qn x30.2 x31) fun r32 =>
 zz (α := ((Bool × (List Int)) × ((List Int) × (Int × ((Bool × (List Int)) × ((Bool × (List Int)) × PPt)))))) (fun (y33, y34, y35, y36, y37, y38, y39) =>
 gd (few (y34.length + 1)) <|
 next25 ((y33.1, y33.2), y34 ++ [y39], y35, (y36.1, y36.2), (y37.1, y37.2), w64 (y38 + 1))) fun j40 =>
 bif decide ((w64 ((w64 ((rdD 0 x29.2 x31) - r32)) - x28)) < 0) then
 j40 ((x26.1, x26.2), x27, 1, (x29.1, x29.2), (x30.1, x30.2), x31, w64 ((w64 ((w64 ((rdD 0 x29.2 x31) - r32)) - x28)) + 65536))
 else
 j40 ((x26.1, x26.2), x27, 0, (x29.1, x29.2), (x30.1, x30.2), x31, w64 ((w64 ((rdD 0 x29.2 x31) - r32)) - x28))
 else
 bnd (zZ x29.1 x27) fun r41 =>
 some (r41.1, r41.2)) k ((y19.1, y19.2), y20, y21, (y22.1, y22.2), (y23, y24), 0)) fun j42 =>
 bif decide (r18 < 0) then
 j42 ((false, []), [], 0, (a1.1, a1.2), a0.1, a0.2)
 else
 j42 ((false, []), [], 0, (a0.1, a0.2), a1.1, a1.2)
theorem zbw (k:Nat) (qn:(List Int)→Int→Option Int) (zZ:Bool→(List Int)→Option (Bool×(List Int))) (Qy:(List Int)→(List Int)→Option Int) (a0:(Bool×(List Int))) (a1:(Bool×(List Int))):zN [⟨97,[.d (.sl kI),.d kI],[kI],fun x=>qn (x.1) (x.2),none⟩,⟨98,[.d .bool,.d (.sl kI)],[.pair .bool (.sl kI)],fun x=>zZ (x.1) (x.2),none⟩,⟨99,[.d (.sl kI),.d (.sl kI)],[kI],fun x=>Qy (x.1) (x.2),none⟩] tb k Tryz.f64 Kg [.d (.pair .bool (.sl kI)),.d (.pair .bool (.sl kI))] [.pair .bool (.sl kI)] (a0,a1)=Ze k qn zZ Qy a0 a1:=by kernel_rfl
def zC (k:Nat) (a0:(Bool×(List Int))) (a1:(Bool×(List Int))):Option (Bool×(List Int)):=Ze k (qE k) (zu k) (jL k) a0 a1
theorem jA (k:Nat):zv Tryz.prog 64 [.d (.pair .bool (.sl kI)),.d (.pair .bool (.sl kI))] [.pair .bool (.sl kI)] (fun x=>zC k (x.1) (x.2)):=fun x y h=>zg zO mix (zp.cons (ze.of rfl (J4 k)) (zp.cons (ze.of rfl (QE k)) (zp.cons (ze.of rfl (zb7 k)) (zp.nil _)))) Tryz.func64 (N:=k) (an:=Kg) (by kernel_rfl) x y ((zbw k (qE k) (zu k) (jL k) (x.1) (x.2)).trans h)
def Yh:Ann:=uLf
def JD (k : Nat) (qu : (Bool × (List Int)) → Option (Bool × (List Int))) (zw : (Bool × (List Int)) → (Bool × (List Int)) → Option (Bool × (List Int))) (a0 : (Bool × (List Int))) (a1 : (Bool × (List Int))) : Option (Bool × (List Int)) :=
 bnd (qu (a1.1, a1.2)) fun r0 =>
 bnd (zw (a0.1, a0.2) (r0.1, r0.2)) fun r1 =>
 some (r1.1, r1.2)
theorem zdj (k:Nat) (qu:(Bool×(List Int))→Option (Bool×(List Int))) (zw:(Bool×(List Int))→(Bool×(List Int))→Option (Bool×(List Int))) (a0:(Bool×(List Int))) (a1:(Bool×(List Int))):zN [⟨66,[.d (.pair .bool (.sl kI))],[.pair .bool (.sl kI)],fun x=>qu x,none⟩,⟨64,[.d (.pair .bool (.sl kI)),.d (.pair .bool (.sl kI))],[.pair .bool (.sl kI)],fun x=>zw (x.1) (x.2),none⟩] tb k Tryz.f143 Yh [.d (.pair .bool (.sl kI)),.d (.pair .bool (.sl kI))] [.pair .bool (.sl kI)] (a0,a1)=JD k qu zw a0 a1:=by kernel_rfl
def jq (k:Nat) (a0:(Bool×(List Int))) (a1:(Bool×(List Int))):Option (Bool×(List Int)):=JD k (ql k) (zC k) a0 a1
theorem zbs (k:Nat):zv Tryz.prog 143 [.d (.pair .bool (.sl kI)),.d (.pair .bool (.sl kI))] [.pair .bool (.sl kI)] (fun x=>jq k (x.1) (x.2)):=fun x y h=>zg zO mix (zp.cons (ze.of rfl (Jp k)) (zp.cons (ze.of rfl (jA k)) (zp.nil _))) Tryz.func143 (N:=k) (an:=Yh) (by kernel_rfl) x y ((zdj k (ql k) (zC k) (x.1) (x.2)).trans h)
def XF:Ann:=uLf
def Kv (k : Nat) (zD : (Bool × (List Int)) → (Bool × (List Int)) → Option (Bool × (List Int))) (Qf : (Bool × (List Int)) → (Bool × (List Int)) → Option (Bool × (List Int))) (a0 : (Bool × (List Int))) (a1 : (Bool × (List Int))) (a2 : (Bool × (List Int))) (a3 : (Bool × (List Int))) : Option (Bool × (List Int)) :=
 bnd (zD (a0.1, a0.2) (a3.1, a3.2)) fun r0 =>
 bnd (zD (a1.1, a1.2) (a2.1, a2.2)) fun r1 =>
 bnd (Qf (r0.1, r0.2) (r1.1, r1.2)) fun r2 =>
 some (r2.1, r2.2)
theorem zfb (k:Nat) (zD:(Bool×(List Int))→(Bool×(List Int))→Option (Bool×(List Int))) (Qf:(Bool×(List Int))→(Bool×(List Int))→Option (Bool×(List Int))) (a0:(Bool×(List Int))) (a1:(Bool×(List Int))) (a2:(Bool×(List Int))) (a3:(Bool×(List Int))):zN [⟨103,[.d (.pair .bool (.sl kI)),.d (.pair .bool (.sl kI))],[.pair .bool (.sl kI)],fun x=>zD (x.1) (x.2),none⟩,⟨143,[.d (.pair .bool (.sl kI)),.d (.pair .bool (.sl kI))],[.pair .bool (.sl kI)],fun x=>Qf (x.1) (x.2),none⟩] tb k Tryz.f100 XF [.d (.pair .bool (.sl kI)),.d (.pair .bool (.sl kI)),.d (.pair .bool (.sl kI)),.d (.pair .bool (.sl kI))] [.pair .bool (.sl kI)] (a0,a1,a2,a3)=Kv k zD Qf a0 a1 a2 a3:=by kernel_rfl
def q6 (k:Nat) (a0:(Bool×(List Int))) (a1:(Bool×(List Int))) (a2:(Bool×(List Int))) (a3:(Bool×(List Int))):Option (Bool×(List Int)):=Kv k (zJ k) (jq k) a0 a1 a2 a3
theorem zcx (k:Nat):zv Tryz.prog 100 [.d (.pair .bool (.sl kI)),.d (.pair .bool (.sl kI)),.d (.pair .bool (.sl kI)),.d (.pair .bool (.sl kI))] [.pair .bool (.sl kI)] (fun x=>q6 k (x.1) (x.2.1) (x.2.2.1) (x.2.2.2)):=fun x y h=>zg zO mix (zp.cons (ze.of rfl (Zk k)) (zp.cons (ze.of rfl (zbs k)) (zp.nil _))) Tryz.func100 (N:=k) (an:=XF) (by kernel_rfl) x y ((zfb k (zJ k) (jq k) (x.1) (x.2.1) (x.2.2.1) (x.2.2.2)).trans h)
def Xg:Ann:=uLf
def J0 (k : Nat) (qd : Int → Option (Bool × (List Int))) (jW : (Bool × (List Int)) → (Bool × (List Int)) → (Bool × (List Int)) → (Bool × (List Int)) → Option (Bool × (List Int))) (zw : (Bool × (List Int)) → (Bool × (List Int)) → Option (Bool × (List Int))) (a0 : PPt) (a1 : PPt) (a2 : PPt) : Option (Bool × (List Int)) :=
 bnd (qd a0.1) fun r0 =>
 bnd (qd a0.2) fun r1 =>
 bnd (qd a1.1) fun r2 =>
 bnd (qd a1.2) fun r3 =>
 bnd (jW (r0.1, r0.2) (r1.1, r1.2) (r2.1, r2.2) (r3.1, r3.2)) fun r4 =>
 bnd (qd a1.1) fun r5 =>
 bnd (qd a1.2) fun r6 =>
 bnd (qd a2.1) fun r7 =>
 bnd (qd a2.2) fun r8 =>
 bnd (jW (r5.1, r5.2) (r6.1, r6.2) (r7.1, r7.2) (r8.1, r8.2)) fun r9 =>
 bnd (zw (r4.1, r4.2) (r9.1, r9.2)) fun r10 =>
 bnd (qd a2.1) fun r11 =>
 bnd (qd a2.2) fun r12 =>
 bnd (qd a0.1) fun r13 =>
 bnd (qd a0.2) fun r14 =>
 bnd (jW (r11.1, r11.2) (r12.1, r12.2) (r13.1, r13.2) (r14.1, r14.2)) fun r15 =>
 bnd (zw (r10.1, r10.2) (r15.1, r15.2)) fun r16 =>
 some (r16.1, r16.2)
theorem zdU (k:Nat) (qd:Int→Option (Bool×(List Int))) (jW:(Bool×(List Int))→(Bool×(List Int))→(Bool×(List Int))→(Bool×(List Int))→Option (Bool×(List Int))) (zw:(Bool×(List Int))→(Bool×(List Int))→Option (Bool×(List Int))) (a0:PPt) (a1:PPt) (a2:PPt):zN [⟨101,[.d kI],[.pair .bool (.sl kI)],fun x=>qd x,none⟩,⟨100,[.d (.pair .bool (.sl kI)),.d (.pair .bool (.sl kI)),.d (.pair .bool (.sl kI)),.d (.pair .bool (.sl kI))],[.pair .bool (.sl kI)],fun x=>jW (x.1) (x.2.1) (x.2.2.1) (x.2.2.2),none⟩,⟨64,[.d (.pair .bool (.sl kI)),.d (.pair .bool (.sl kI))],[.pair .bool (.sl kI)],fun x=>zw (x.1) (x.2),none⟩] tb k Tryz.f65 Xg [.d kPP,.d kPP,.d kPP] [.pair .bool (.sl kI)] (a0,a1,a2)=J0 k qd jW zw a0 a1 a2:=by kernel_rfl
def Zo (k:Nat) (a0:PPt) (a1:PPt) (a2:PPt):Option (Bool×(List Int)):=J0 k (ZF k) (q6 k) (zC k) a0 a1 a2
theorem zbQ (k:Nat):zv Tryz.prog 65 [.d kPP,.d kPP,.d kPP] [.pair .bool (.sl kI)] (fun x=>Zo k (x.1) (x.2.1) (x.2.2)):=fun x y h=>zg zO mix (zp.cons (ze.of rfl (zcN k)) (zp.cons (ze.of rfl (zcx k)) (zp.cons (ze.of rfl (jA k)) (zp.nil _)))) Tryz.func65 (N:=k) (an:=Xg) (by kernel_rfl) x y ((zdU k (ZF k) (q6 k) (zC k) (x.1) (x.2.1) (x.2.2)).trans h)
def Kc:Ann:=uLf
def zV (k : Nat) (a0 : (Bool × (List Int))) : Option Int :=
 bif decide ((a0.2.length : Int) = 0) then
 some 0
 else
 bif a0.1 then
 some (-1)
 else
 some 1
theorem zba (k:Nat) (a0:(Bool×(List Int))):zN [] tb k Tryz.f67 Kc [.d (.pair .bool (.sl kI))] [kI] a0=zV k a0:=by kernel_rfl
theorem Zv (k:Nat):zv Tryz.prog 67 [.d (.pair .bool (.sl kI))] [kI] (fun x=>zV k x):=fun x y h=>zg zO mix (zp.nil _) Tryz.func67 (N:=k) (an:=Kc) (by kernel_rfl) x y ((zba k x).trans h)
def KQ:Ann:=uNn uLf (uNn (uNn (.node (some [(3,.box [.d kPP]),(4,.box [.d kPP]),(5,.box [.d kPP]),(19,.d .bool)]) none uLf uLf) uLf) uLf)
def Q7 (k : Nat) (zo : PPt → Option Bool) (Qx : PPt → PPt → PPt → Option (Bool × (List Int))) (zP : (Bool × (List Int)) → Option Int) (a0 : PPt) (a1 : PPt) (a2 : PPt) : Option Int :=
 zz (α := (PPt × (PPt × (PPt × Bool)))) (fun (y0, y1, y2, y3) =>
 bif y3 then
 some 0
 else
 bnd (Qx (y0.1, y0.2) (y1.1, y1.2) (y2.1, y2.2)) fun r4 =>
 bnd (zP (r4.1, r4.2)) fun r5 =>
 some r5) fun j6 =>
 bnd (zo (a0.1, a0.2)) fun r7 =>
 bif !r7 then
 j6 ((a0.1, a0.2), (a1.1, a1.2), (a2.1, a2.2), true)
 else
 bnd (zo (a1.1, a1.2)) fun r8 =>
 bif !r8 then
 j6 ((a0.1, a0.2), (a1.1, a1.2), (a2.1, a2.2), true)
 else
 bnd (zo (a2.1, a2.2)) fun r9 =>
 j6 ((a0.1, a0.2), (a1.1, a1.2), (a2.1, a2.2), !r9)
theorem zcm (k:Nat) (zo:PPt→Option Bool) (Qx:PPt→PPt→PPt→Option (Bool×(List Int))) (zP:(Bool×(List Int))→Option Int) (a0:PPt) (a1:PPt) (a2:PPt):zN [⟨72,[.d kPP],[.bool],fun x=>zo x,none⟩,⟨65,[.d kPP,.d kPP,.d kPP],[.pair .bool (.sl kI)],fun x=>Qx (x.1) (x.2.1) (x.2.2),none⟩,⟨67,[.d (.pair .bool (.sl kI))],[kI],fun x=>zP x,none⟩] tb k Tryz.f73 KQ [.d kPP,.d kPP,.d kPP] [kI] (a0,a1,a2)=Q7 k zo Qx zP a0 a1 a2:=by kernel_rfl
def qT (k:Nat) (a0:PPt) (a1:PPt) (a2:PPt):Option Int:=Q7 k (zW k) (Zo k) (zV k) a0 a1 a2
theorem JX (k:Nat):zv Tryz.prog 73 [.d kPP,.d kPP,.d kPP] [kI] (fun x=>qT k (x.1) (x.2.1) (x.2.2)):=fun x y h=>zg zO mix (zp.cons (ze.of rfl (jt k)) (zp.cons (ze.of rfl (zbQ k)) (zp.cons (ze.of rfl (Zv k)) (zp.nil _)))) Tryz.func73 (N:=k) (an:=KQ) (by kernel_rfl) x y ((zcm k (zW k) (Zo k) (zV k) (x.1) (x.2.1) (x.2.2)).trans h)
end
end Go.Proofs.YtpkkcjmblocjdaaGreat.AM
