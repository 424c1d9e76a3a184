/- The functions, by their texts: written by a program. -/
import Derived.Test.YtpkkcjmblocjdaaGreatGa4
import Derived.Test.YtpkkcjmblocjdaaGreatCln
set_option linter.unusedVariables false
set_option linter.unusedSimpArgs false
set_option linter.unusedSectionVars false
set_option maxRecDepth 100000
namespace Go.Proofs.YtpkkcjmblocjdaaGreat.AM
open Go.RowKit Go.Proofs
noncomputable section
def KH:Ann:=uNn uLf (uNn uLf (uNn (uNn uLf (uNn (.node none (some [(0,.d kLP),(1,.d kLP),(5,.d kI)]) uLf uLf) uLf)) uLf))
def qN (k : Nat) (a0 : LPt) (a1 : LPt) : Option Bool :=
 bif !(decide ((a0.length : Int) = (a1.length : Int))) then
 some false
 else
 zw (α := (LPt × (LPt × Int))) (fun (x1, x2, x3) next0 =>
 bif decide (x3 < (x1.length : Int)) then
 gd (inb x3 x1.length) <|
 gd (inb x3 x2.length) <|
 bif !((decide ((rdD (0, 0) x1 x3).1 = (rdD (0, 0) x2 x3).1)) && (decide ((rdD (0, 0) x1 x3).2 = (rdD (0, 0) x2 x3).2))) then
 some false
 else
 next0 (x1, x2, w64 (x3 + 1))
 else
 some true) k (a0, a1, 0)
theorem zbX (k:Nat) (a0:LPt) (a1:LPt):zN [] tb k Tryz.f17 KH [.d kLP,.d kLP] [.bool] (a0,a1)=qN k a0 a1:=by kernel_rfl
theorem zai (k:Nat):zv Tryz.prog 17 [.d kLP,.d kLP] [.bool] (fun x=>qN k (x.1) (x.2)):=fun x y h=>zh zO mix (zo.nil _) Tryz.func17 (N:=k) (an:=KH) (by kernel_rfl) x y ((zbX k (x.1) (x.2)).trans h)
def Kq:Ann:=uNn uLf (uNn uLf (uNn (uNn uLf (uNn (.node none (some [(0,.d (.sl (.pair kI kPP))),(1,.d (.sl (.pair kI kPP))),(5,.d kI)]) uLf uLf) uLf)) uLf))
def qM (k : Nat) (a0 : LTr) (a1 : LTr) : Option Bool :=
 bif !(decide ((a0.length : Int) = (a1.length : Int))) then
 some false
 else
 zw (α := (LTr × (LTr × Int))) (fun (x1, x2, x3) next0 =>
 bif decide (x3 < (x1.length : Int)) then
 gd (inb x3 x1.length) <|
 gd (inb x3 x2.length) <|
 bif !((decide ((rdD (0, 0, 0) x1 x3).1 = (rdD (0, 0, 0) x2 x3).1)) && ((decide ((rdD (0, 0, 0) x1 x3).2.1 = (rdD (0, 0, 0) x2 x3).2.1)) && (decide ((rdD (0, 0, 0) x1 x3).2.2 = (rdD (0, 0, 0) x2 x3).2.2)))) then
 some false
 else
 next0 (x1, x2, w64 (x3 + 1))
 else
 some true) k (a0, a1, 0)
theorem zbI (k:Nat) (a0:LTr) (a1:LTr):zN [] tb k Tryz.f44 Kq [.d (.sl (.pair kI kPP)),.d (.sl (.pair kI kPP))] [.bool] (a0,a1)=qM k a0 a1:=by kernel_rfl
theorem zay (k:Nat):zv Tryz.prog 44 [.d (.sl (.pair kI kPP)),.d (.sl (.pair kI kPP))] [.bool] (fun x=>qM k (x.1) (x.2)):=fun x y h=>zh zO mix (zo.nil _) Tryz.func44 (N:=k) (an:=Kq) (by kernel_rfl) x y ((zbI k (x.1) (x.2)).trans h)
def zga:Ann:=uLf
def J9 (k : Nat) (a0 : (Int × PPt)) : Option (PPt × (PPt × PPt)) :=
 some ((a0.1, a0.2.1), (a0.2.1, a0.2.2), a0.2.2, a0.1)
theorem zl6 (k:Nat) (a0:(Int×PPt)):zN [] tb k Tryz.f60 zga [.d (.pair kI kPP)] [.pair kPP (.pair kPP kPP)] a0=J9 k a0:=by kernel_rfl
theorem zio (k:Nat):zv Tryz.prog 60 [.d (.pair kI kPP)] [.pair kPP (.pair kPP kPP)] (fun x=>J9 k x):=fun x y h=>zh zO mix (zo.nil _) Tryz.func60 (N:=k) (an:=zga) (by kernel_rfl) x y ((zl6 k x).trans h)
def zf5:Ann:=uNn uLf (uNn uLf (uNn (uNn uLf (uNn (.node none (some [(1,.box [.d (.pair kLP (.pair (.sl (.pair kI kPP)) kLP))]),(3,.mp kPP .bool),(16,.d (.sl (.pair kI kPP))),(17,.d kI),(18,.d kI)]) (uNn uLf (uNn uLf (uNn (uNn (uNn uLf (uNn (uNn uLf (uNn (.node (some [(1,.box [.d (.pair kLP (.pair (.sl (.pair kI kPP)) kLP))]),(3,.mp kPP .bool),(5,.box [.d (.pair kI kPP)]),(16,.d (.sl (.pair kI kPP))),(17,.d kI),(18,.d kI),(56,.d .bool)]) none uLf uLf) uLf)) (uNn uLf (uNn (.node none (some [(1,.box [.d (.pair kLP (.pair (.sl (.pair kI kPP)) kLP))]),(3,.mp kPP .bool),(16,.d (.sl (.pair kI kPP))),(17,.d kI),(18,.d kI),(58,.d (.pair kPP (.pair kPP kPP))),(59,.d kI)]) (uNn uLf (uNn uLf (uNn (uNn (uNn (.node (some [(1,.box [.d (.pair kLP (.pair (.sl (.pair kI kPP)) kLP))]),(3,.mp kPP .bool),(9,.box [.d kPP]),(16,.d (.sl (.pair kI kPP))),(17,.d kI),(18,.d kI),(58,.d (.pair kPP (.pair kPP kPP))),(59,.d kI)]) none uLf uLf) uLf) uLf) uLf))) uLf) uLf)))) uLf) uLf))) uLf) uLf)) (uNn uLf (uNn (uNn uLf (uNn (.node none (some [(1,.box [.d (.pair kLP (.pair (.sl (.pair kI kPP)) kLP))]),(3,.mp kPP .bool),(10,.mp kPP .bool),(71,.d kLP),(72,.d kI),(73,.d kI)]) (uNn uLf (uNn uLf (uNn (uNn (uNn uLf (uNn (uNn (.node (some [(1,.box [.d (.pair kLP (.pair (.sl (.pair kI kPP)) kLP))]),(3,.mp kPP .bool),(10,.mp kPP .bool),(12,.box [.d kPP]),(71,.d kLP),(72,.d kI),(73,.d kI),(113,.d .bool)]) none uLf uLf) uLf) uLf)) uLf) uLf))) uLf) uLf)) (uNn (uNn uLf (uNn (.node none (some [(3,.mpf kPP .bool),(10,.mp kPP .bool),(118,.it kPP .bool)]) (uNn uLf (uNn uLf (uNn (uNn uLf (uNn (.node (some [(3,.d (.mp kPP .bool)),(10,.mp kPP .bool),(118,.it kPP .bool),(137,.d .bool)]) none uLf uLf) uLf)) uLf))) uLf) uLf)) uLf)))))
def zc6 (k : Nat) (Q5 : LPt → Int → Int → Int → Option ((Int × PPt) × Bool)) (zaq : (Int × PPt) → (Int × PPt) → Option Int) (zaa : (Int × PPt) → Option (PPt × (PPt × PPt))) (zaw : PPt → PPt → Option Int) (Z4 : PPt → Option PPt) (a0 : TMs) : Option Int :=
 zw (α := (TMs × ((List (PPt × Bool)) × (LTr × PPt)))) (fun (x1, x2, x3, x4, x5) next0 =>
 bif decide (x5 < x4) then
 gd (inb x5 x3.length) <|
 bnd (Q5 x1.1 (rdD (0, 0, 0) x3 x5).1 (rdD (0, 0, 0) x3 x5).2.1 (rdD (0, 0, 0) x3 x5).2.2) fun r6 =>
 zx (α := (TMs × ((List (PPt × Bool)) × ((Int × PPt) × (LTr × (Int × (Int × Bool))))))) (fun (y7, y8, y9, y10, y11, y12, y13) =>
 bif y13 then
 some 2
 else
 bnd (zaa (y9.1, y9.2.1, y9.2.2)) fun r14 =>
 zw (α := (TMs × ((List (PPt × Bool)) × (LTr × (Int × (Int × ((PPt × (PPt × PPt)) × Int))))))) (fun (x16, x17, x18, x19, x20, x21, x22) next15 =>
 bif decide (x22 < 3) then
 zx (α := (TMs × ((List (PPt × Bool)) × (PPt × (LTr × (Int × (Int × ((PPt × (PPt × PPt)) × Int)))))))) (fun (y23, y24, y25, y26, y27, y28, y29, y30) =>
 bif toT Bool (lkM (.pair (.int .i64) (.int .i64)) .bool y24 (y25.1, y25.2)) then
 some 2
 else
 gd (!(hsM (.pair (.int .i64) (.int .i64)) .bool y24 (y25.1, y25.2))) <|
 next15 ((y23.1, y23.2.1, y23.2.2), adM (.pair (.int .i64) (.int .i64)) .bool y24 (y25.1, y25.2) true, y26, y27, y28, ((y29.1.1, y29.1.2), (y29.2.1.1, y29.2.1.2), y29.2.2.1, y29.2.2.2), w64 (y30 + 1))) fun j31 =>
 bif decide (x22 = 0) then
 j31 ((x16.1, x16.2.1, x16.2.2), x17, (x21.1.1, x21.1.2), x18, x19, x20, ((x21.1.1, x21.1.2), (x21.2.1.1, x21.2.1.2), x21.2.2.1, x21.2.2.2), x22)
 else
 bif decide (x22 = 1) then
 j31 ((x16.1, x16.2.1, x16.2.2), x17, (x21.2.1.1, x21.2.1.2), x18, x19, x20, ((x21.1.1, x21.1.2), (x21.2.1.1, x21.2.1.2), x21.2.2.1, x21.2.2.2), x22)
 else
 bif decide (x22 = 2) then
 j31 ((x16.1, x16.2.1, x16.2.2), x17, (x21.2.2.1, x21.2.2.2), x18, x19, x20, ((x21.1.1, x21.1.2), (x21.2.1.1, x21.2.1.2), x21.2.2.1, x21.2.2.2), x22)
 else
 none
 else
 next0 ((x16.1, x16.2.1, x16.2.2), x17, x18, x19, w64 (x20 + 1))) k ((y7.1, y7.2.1, y7.2.2), y8, y10, y11, y12, ((r14.1.1, r14.1.2), (r14.2.1.1, r14.2.1.2), r14.2.2.1, r14.2.2.2), 0)) fun j32 =>
 bif !r6.2 then
 j32 ((x1.1, x1.2.1, x1.2.2), x2, ((rdD (0, 0, 0) x3 x5).1, (rdD (0, 0, 0) x3 x5).2.1, (rdD (0, 0, 0) x3 x5).2.2), x3, x4, x5, true)
 else
 bif !((decide (r6.1.1 = (rdD (0, 0, 0) x3 x5).1)) && ((decide (r6.1.2.1 = (rdD (0, 0, 0) x3 x5).2.1)) && (decide (r6.1.2.2 = (rdD (0, 0, 0) x3 x5).2.2)))) then
 j32 ((x1.1, x1.2.1, x1.2.2), x2, ((rdD (0, 0, 0) x3 x5).1, (rdD (0, 0, 0) x3 x5).2.1, (rdD (0, 0, 0) x3 x5).2.2), x3, x4, x5, true)
 else
 bif decide (x5 > 0) then
 gd (inb (w64 (x5 - 1)) x1.2.1.length) <|
 bnd (zaq ((rdD (0, 0, 0) x1.2.1 (w64 (x5 - 1))).1, (rdD (0, 0, 0) x1.2.1 (w64 (x5 - 1))).2.1, (rdD (0, 0, 0) x1.2.1 (w64 (x5 - 1))).2.2) ((rdD (0, 0, 0) x3 x5).1, (rdD (0, 0, 0) x3 x5).2.1, (rdD (0, 0, 0) x3 x5).2.2)) fun r33 =>
 j32 ((x1.1, x1.2.1, x1.2.2), x2, ((rdD (0, 0, 0) x3 x5).1, (rdD (0, 0, 0) x3 x5).2.1, (rdD (0, 0, 0) x3 x5).2.2), x3, x4, x5, decide (r33 ≥ 0))
 else
 j32 ((x1.1, x1.2.1, x1.2.2), x2, ((rdD (0, 0, 0) x3 x5).1, (rdD (0, 0, 0) x3 x5).2.1, (rdD (0, 0, 0) x3 x5).2.2), x3, x4, x5, false)
 else
 zw (α := (TMs × ((List (PPt × Bool)) × ((List (PPt × Bool)) × (LPt × PPt))))) (fun (x35, x36, x37, x38, x39, x40) next34 =>
 bif decide (x40 < x39) then
 gd (inb x40 x38.length) <|
 zx (α := (TMs × ((List (PPt × Bool)) × ((List (PPt × Bool)) × (PPt × (LPt × (Int × (Int × Bool)))))))) (fun (y41, y42, y43, y44, y45, y46, y47, y48) =>
 bif y48 then
 some 2
 else
 gd (!(hsM (.pair (.int .i64) (.int .i64)) .bool y43 (y44.1, y44.2))) <|
 next34 ((y41.1, y41.2.1, y41.2.2), y42, adM (.pair (.int .i64) (.int .i64)) .bool y43 (y44.1, y44.2) true, y45, y46, w64 (y47 + 1))) fun j49 =>
 bif decide ((rdD (0, 0) x38 x40).1 ≥ (rdD (0, 0) x38 x40).2) then
 j49 ((x35.1, x35.2.1, x35.2.2), x36, x37, ((rdD (0, 0) x38 x40).1, (rdD (0, 0) x38 x40).2), x38, x39, x40, true)
 else
 bif decide (x40 > 0) then
 gd (inb (w64 (x40 - 1)) x35.2.2.length) <|
 bnd (zaw ((rdD (0, 0) x35.2.2 (w64 (x40 - 1))).1, (rdD (0, 0) x35.2.2 (w64 (x40 - 1))).2) ((rdD (0, 0) x38 x40).1, (rdD (0, 0) x38 x40).2)) fun r50 =>
 bif decide (r50 ≥ 0) then
 j49 ((x35.1, x35.2.1, x35.2.2), x36, x37, ((rdD (0, 0) x38 x40).1, (rdD (0, 0) x38 x40).2), x38, x39, x40, true)
 else
 bif !(toT Bool (lkM (.pair (.int .i64) (.int .i64)) .bool x36 ((rdD (0, 0) x38 x40).1, (rdD (0, 0) x38 x40).2))) then
 j49 ((x35.1, x35.2.1, x35.2.2), x36, x37, ((rdD (0, 0) x38 x40).1, (rdD (0, 0) x38 x40).2), x38, x39, x40, !(toT Bool (lkM (.pair (.int .i64) (.int .i64)) .bool x36 ((rdD (0, 0) x38 x40).2, (rdD (0, 0) x38 x40).1))))
 else
 j49 ((x35.1, x35.2.1, x35.2.2), x36, x37, ((rdD (0, 0) x38 x40).1, (rdD (0, 0) x38 x40).2), x38, x39, x40, false)
 else
 bif !(toT Bool (lkM (.pair (.int .i64) (.int .i64)) .bool x36 ((rdD (0, 0) x38 x40).1, (rdD (0, 0) x38 x40).2))) then
 j49 ((x35.1, x35.2.1, x35.2.2), x36, x37, ((rdD (0, 0) x38 x40).1, (rdD (0, 0) x38 x40).2), x38, x39, x40, !(toT Bool (lkM (.pair (.int .i64) (.int .i64)) .bool x36 ((rdD (0, 0) x38 x40).2, (rdD (0, 0) x38 x40).1))))
 else
 j49 ((x35.1, x35.2.1, x35.2.2), x36, x37, ((rdD (0, 0) x38 x40).1, (rdD (0, 0) x38 x40).2), x38, x39, x40, false)
 else
 zw (α := ((List (PPt × Bool)) × ((List (PPt × Bool)) × (List (PPt × Bool))))) (fun (x52, x53, x54) next51 =>
 nxt x54 (
 some 0) (fun (e56, e57) r55 =>
 zx (α := ((List (PPt × Bool)) × ((List (PPt × Bool)) × ((List (PPt × Bool)) × Bool)))) (fun (y58, y59, y60, y61) =>
 bif y61 then
 some 2
 else
 next51 (y58, y59, y60)) fun j62 =>
 bif !(toT Bool (lkM (.pair (.int .i64) (.int .i64)) .bool x52 (e56.2, e56.1))) then
 bnd (Z4 (e56.1, e56.2)) fun r63 =>
 j62 (x52, x53, r55, !(toT Bool (lkM (.pair (.int .i64) (.int .i64)) .bool x53 (r63.1, r63.2))))
 else
 j62 (x52, x53, r55, false))) k (x36, x37, x36)) k ((x1.1, x1.2.1, x1.2.2), x2, [], x1.2.2, (x1.2.2.length : Int), 0)) k ((a0.1, a0.2.1, a0.2.2), [], a0.2.1, (a0.2.1.length : Int), 0)
theorem zlN (k:Nat) (Q5:LPt→Int→Int→Int→Option ((Int×PPt)×Bool)) (zaq:(Int×PPt)→(Int×PPt)→Option Int) (zaa:(Int×PPt)→Option (PPt×(PPt×PPt))) (zaw:PPt→PPt→Option Int) (Z4:PPt→Option PPt) (a0:TMs):zN [⟨40,[.d kLP,.d kI,.d kI,.d kI],[.pair kI kPP,.bool],fun x=>Q5 (x.1) (x.2.1) (x.2.2.1) (x.2.2.2),none⟩,⟨57,[.d (.pair kI kPP),.d (.pair kI kPP)],[kI],fun x=>zaq (x.1) (x.2),none⟩,⟨60,[.d (.pair kI kPP)],[.pair kPP (.pair kPP kPP)],fun x=>zaa x,none⟩,⟨49,[.d kPP,.d kPP],[kI],fun x=>zaw (x.1) (x.2),none⟩,⟨61,[.d kPP],[.pair kI kI],fun x=>Z4 x,none⟩] tb k Tryz.f21 zf5 [.d (.pair kLP (.pair (.sl (.pair kI kPP)) kLP))] [kI] a0=zc6 k Q5 zaq zaa zaw Z4 a0:=by kernel_rfl
def Yf (k:Nat) (a0:TMs):Option Int:=zc6 k (ZU k) (Q1 k) (J9 k) (Qu k) (Jf k) a0
theorem ziy (k:Nat):zv Tryz.prog 21 [.d (.pair kLP (.pair (.sl (.pair kI kPP)) kLP))] [kI] (fun x=>Yf k x):=fun x y h=>zh zO mix (zo.cons (ze.of rfl (zez k)) (zo.cons (ze.of rfl (zcD k)) (zo.cons (ze.of rfl (zio k)) (zo.cons (ze.of rfl (zcd k)) (zo.cons (ze.of rfl (zbK k)) (zo.nil _)))))) Tryz.func21 (N:=k) (an:=zf5) (by kernel_rfl) x y ((zlN k (ZU k) (Q1 k) (J9 k) (Qu k) (Jf k) x).trans h)
def YM:Ann:=uNn uLf (uNn uLf (uNn uLf (uNn uLf (uNn uLf (uNn (.node (some [(0,.d .bool)]) none uLf uLf) uLf)))))
def JS (k : Nat) (ZB : TPl → Option (LPt × Int)) (ZL : TPl → Option (TMs × Int)) (Zk : LPt → LPt → Option Bool) (Zp : LTr → LTr → Option Bool) (zas : TMs → Option Int) : Option Bool :=
 bnd (ZB ([(0, 0), (4, 0), (4, 4), (0, 4)], [(0, 1), (1, 2), (2, 3), (3, 0)], [])) fun r0 =>
 bnd (ZL ([(0, 0), (4, 0), (4, 4), (0, 4)], [(0, 1), (1, 2), (2, 3), (3, 0)], [])) fun r1 =>
 bnd (ZL ([], [], [])) fun r2 =>
 zx (α := Bool) (fun y3 =>
 some y3) fun j4 =>
 bnd (Zk r0.1 [(0, 1), (0, 2), (0, 3), (1, 2), (2, 3)]) fun r5 =>
 bif r5 then
 bif decide (r0.2 = 0) then
 bnd (Zp r1.1.2.1 [(0, 1, 2), (0, 2, 3)]) fun r6 =>
 bif r6 then
 bif decide (r1.2 = 0) then
 bnd (zas (r1.1.1, r1.1.2.1, r1.1.2.2)) fun r7 =>
 bif decide (r7 = 0) then
 j4 (decide (r2.2 = 2))
 else
 j4 false
 else
 j4 false
 else
 j4 false
 else
 j4 false
 else
 j4 false
theorem zd9 (k:Nat) (ZB:TPl→Option (LPt×Int)) (ZL:TPl→Option (TMs×Int)) (Zk:LPt→LPt→Option Bool) (Zp:LTr→LTr→Option Bool) (zas:TMs→Option Int):zN [⟨13,[.d kPl],[.sl kPP,kI],fun x=>ZB x,none⟩,⟨15,[.d kPl],[.pair kLP (.pair (.sl (.pair kI kPP)) kLP),kI],fun x=>ZL x,none⟩,⟨17,[.d kLP,.d kLP],[.bool],fun x=>Zk (x.1) (x.2),none⟩,⟨44,[.d (.sl (.pair kI kPP)),.d (.sl (.pair kI kPP))],[.bool],fun x=>Zp (x.1) (x.2),none⟩,⟨21,[.d (.pair kLP (.pair (.sl (.pair kI kPP)) kLP))],[kI],fun x=>zas x,none⟩] tbx k Tryz.f11 YM [] [.bool] ()=JS k ZB ZL Zk Zp zas:=by kernel_rfl
def jB (k:Nat):Option Bool:=JS k (ZC k) (ZN k) (qN k) (qM k) (Yf k)
theorem zbS (k:Nat):zv Tryz.prog 11 [] [.bool] (fun x=>jB k):=fun x y h=>zh zu0 mix (zo.cons (ze.of rfl (zci k)) (zo.cons (ze.of rfl (zdH k)) (zo.cons (ze.of rfl (zai k)) (zo.cons (ze.of rfl (zay k)) (zo.cons (ze.of rfl (ziy k)) (zo.nil _)))))) Tryz.func11 (N:=k) (an:=YM) (by kernel_rfl) x y ((zd9 k (ZC k) (ZN k) (qN k) (qM k) (Yf k)).trans h)
def Xs:Ann:=uNn uLf (uNn (.node (some [(2,.d .bool)]) none uLf uLf) uLf)
def zX (k : Nat) (a0 : PPt) : Option Bool :=
 zx (α := Bool) (fun y0 =>
 some y0) fun j1 =>
 bif decide (a0.1 ≥ (-4294967296)) then
 bif decide (a0.1 ≤ 4294967296) then
 bif decide (a0.2 ≥ (-4294967296)) then
 j1 (decide (a0.2 ≤ 4294967296))
 else
 j1 false
 else
 j1 false
 else
 j1 false
theorem zeL (k:Nat) (a0:PPt):zN [] tb k Tryz.f72 Xs [.d kPP] [.bool] a0=zX k a0:=by kernel_rfl
theorem jy (k:Nat):zv Tryz.prog 72 [.d kPP] [.bool] (fun x=>zX k x):=fun x y h=>zh zO mix (zo.nil _) Tryz.func72 (N:=k) (an:=Xs) (by kernel_rfl) x y ((zeL k x).trans h)
def XJ:Ann:=uNn uLf (uNn uLf (uNn (uNn (.node none (some [(0,.d .bool),(1,.d (.sl kI)),(4,.box [.d .bool,.row kI 3]),(5,.d kI)]) (uNn (uNn (.node (some [(0,.d .bool),(1,.d (.sl kI)),(4,.box [.d .bool,.row kI 3]),(5,.d kI),(17,.d .bool)]) none uLf uLf) uLf) uLf) uLf) uLf) (uNn (.node (some [(4,.box [.d (.pair .bool (.sl kI))])]) none uLf uLf) uLf)))
def zu (k : Nat) (a0 : Bool) (a1 : (List Int)) : Option (Bool × (List Int)) :=
 zw (α := (Bool × ((List Int) × ((Bool × (List Int)) × Int)))) (fun (x1, x2, x3, x4) next0 =>
 zx (α := (Bool × ((List Int) × ((Bool × (List Int)) × (Int × Bool))))) (fun (y5, y6, y7, y8, y9) =>
 bif y9 then
 next0 (y5, y6, (y7.1, y7.2), w64 (y8 - 1))
 else
 zx (α := (Bool × (List Int))) (fun (y10, y11) =>
 some (y10, y11)) fun j12 =>
 bif y5 then
 gd (decide (0 ≤ y8)) <|
 gd (decide (y8 ≤ (y6.length : Int))) <|
 j12 (decide (y8 > 0), tkL y6 y8)
 else
 gd (decide (0 ≤ y8)) <|
 gd (decide (y8 ≤ (y6.length : Int))) <|
 j12 (false, tkL y6 y8)) fun j13 =>
 bif decide (x4 > 0) then
 gd (inb (w64 (x4 - 1)) x2.length) <|
 j13 (x1, x2, (x3.1, x3.2), x4, decide ((rdD 0 x2 (w64 (x4 - 1))) = 0))
 else
 j13 (x1, x2, (x3.1, x3.2), x4, false)) k (a0, a1, (false, []), (a1.length : Int))
theorem zeP (k:Nat) (a0:Bool) (a1:(List Int)):zN [] tb k Tryz.f98 XJ [.d .bool,.d (.sl kI)] [.pair .bool (.sl kI)] (a0,a1)=zu k a0 a1:=by kernel_rfl
theorem QP (k:Nat):zv Tryz.prog 98 [.d .bool,.d (.sl kI)] [.pair .bool (.sl kI)] (fun x=>zu k (x.1) (x.2)):=fun x y h=>zh zO mix (zo.nil _) Tryz.func98 (N:=k) (an:=XJ) (by kernel_rfl) x y ((zeP k (x.1) (x.2)).trans h)
def YA:Ann:=uNn uLf (uNn uLf (uNn uLf (uNn (uNn (.node none (some [(0,.d kI),(2,.box [.d .bool,.row kI 3]),(3,.row kI 3),(4,.d kI)]) (uNn uLf (uNn (uNn uLf (uNn (uNn uLf (.node (some [(0,.d kI),(2,.box [.d .bool,.row kI 3]),(3,.row kI 3),(4,.d kI),(5,.d kI)]) none uLf uLf)) uLf)) uLf)) uLf) uLf) uLf)))
def Qc (k : Nat) (z6 : Bool → (List Int) → Option (Bool × (List Int))) (a0 : Int) : Option (Bool × (List Int)) :=
 zw (α := (Int × ((Bool × (List Int)) × ((List Int) × Int)))) (fun (x1, x2, x3, x4) next0 =>
 bif !(decide (x4 = 0)) then
 zx (α := (Int × ((Bool × (List Int)) × ((List Int) × PPt)))) (fun (y5, y6, y7, y8, y9) =>
 gd (few (y7.length + 1)) <|
 next0 (y5, (y6.1, y6.2), y7 ++ [y9], w64 (y8.tdiv 65536))) fun j10 =>
 bif decide ((x4.tmod 65536) < 0) then
 j10 (x1, (x2.1, x2.2), x3, x4, w64 (0 - (x4.tmod 65536)))
 else
 j10 (x1, (x2.1, x2.2), x3, x4, x4.tmod 65536)
 else
 bnd (z6 (decide (x1 < 0)) x3) fun r11 =>
 some (r11.1, r11.2)) k (a0, (false, []), [], a0)
theorem zd0 (k:Nat) (z6:Bool→(List Int)→Option (Bool×(List Int))) (a0:Int):zN [⟨98,[.d .bool,.d (.sl kI)],[.pair .bool (.sl kI)],fun x=>z6 (x.1) (x.2),none⟩] tb k Tryz.f102 YA [.d kI] [.pair .bool (.sl kI)] a0=Qc k z6 a0:=by kernel_rfl
def zJ (k:Nat) (a0:Int):Option (Bool×(List Int)):=Qc k (zu k) a0
theorem QC (k:Nat):zv Tryz.prog 102 [.d kI] [.pair .bool (.sl kI)] (fun x=>zJ k x):=fun x y h=>zh zO mix (zo.cons (ze.of rfl (QP k)) (zo.nil _)) Tryz.func102 (N:=k) (an:=YA) (by kernel_rfl) x y ((zd0 k (zu k) x).trans h)
def X5:Ann:=uLf
def KU (k : Nat) (zH : Int → Option (Bool × (List Int))) (a0 : Int) : Option (Bool × (List Int)) :=
 bnd (zH a0) fun r0 =>
 some (r0.1, r0.2)
theorem zfZ (k:Nat) (zH:Int→Option (Bool×(List Int))) (a0:Int):zN [⟨102,[.d kI],[.pair .bool (.sl kI)],fun x=>zH x,none⟩] tb k Tryz.f101 X5 [.d kI] [.pair .bool (.sl kI)] a0=KU k zH a0:=by kernel_rfl
def ZT (k:Nat) (a0:Int):Option (Bool×(List Int)):=KU k (zJ k) a0
theorem zdu (k:Nat):zv Tryz.prog 101 [.d kI] [.pair .bool (.sl kI)] (fun x=>ZT k x):=fun x y h=>zh zO mix (zo.cons (ze.of rfl (QC k)) (zo.nil _)) Tryz.func101 (N:=k) (an:=X5) (by kernel_rfl) x y ((zfZ k (zJ k) x).trans h)
def YS:Ann:=uLf
def qG (k : Nat) (a0 : (List Int)) (a1 : Int) : Option Int :=
 bif decide (a1 < (a0.length : Int)) then
 gd (inb a1 a0.length) <|
 some (rdD 0 a0 a1)
 else
 some 0
theorem zd6 (k:Nat) (a0:(List Int)) (a1:Int):zN [] tb k Tryz.f97 YS [.d (.sl kI),.d kI] [kI] (a0,a1)=qG k a0 a1:=by kernel_rfl
theorem KA (k:Nat):zv Tryz.prog 97 [.d (.sl kI),.d kI] [kI] (fun x=>qG k (x.1) (x.2)):=fun x y h=>zh zO mix (zo.nil _) Tryz.func97 (N:=k) (an:=YS) (by kernel_rfl) x y ((zd6 k (x.1) (x.2)).trans h)
def Kb:Ann:=uNn uLf (uNn uLf (uNn (uNn uLf (uNn (.node none (some [(2,.box [.d (.pair .bool (.sl kI))]),(3,.box [.d (.pair .bool (.sl kI))]),(4,.box [.d .bool,.row kI 3]),(5,.row kI 3),(6,.d kI)]) (uNn uLf (uNn (uNn (uNn uLf (uNn uLf (uNn (.node none (some [(2,.box [.d (.pair .bool (.sl kI))]),(3,.box [.d (.pair .bool (.sl kI))]),(4,.box [.d .bool,.row kI 3]),(5,.row kI 3),(6,.d kI),(7,.d kI),(8,.d kI)]) (uNn (uNn (.node (some [(2,.box [.d (.pair .bool (.sl kI))]),(3,.box [.d (.pair .bool (.sl kI))]),(4,.box [.d .bool,.row kI 3]),(5,.row kI 3),(6,.d kI),(7,.d kI),(8,.d kI),(34,.d .bool)]) none uLf uLf) uLf) uLf) uLf) uLf))) uLf) uLf)) uLf) uLf)) uLf))
def QD (k : Nat) (qo : (List Int) → Int → Option Int) (z6 : Bool → (List Int) → Option (Bool × (List Int))) (a0 : (Bool × (List Int))) (a1 : (Bool × (List Int))) : Option (Bool × (List Int)) :=
 gd (decide (0 ≤ (w64 ((w64 ((a0.2.length : Int) + (a1.2.length : Int))) + 1)))) <|
 gd (zfY (w64 ((w64 ((a0.2.length : Int) + (a1.2.length : Int))) + 1))) <|
 zw (α := ((Bool × (List Int)) × ((Bool × (List Int)) × ((Bool × (List Int)) × ((List Int) × Int))))) (fun (x1, x2, x3, x4, x5) next0 =>
 bif decide (x5 < (x1.2.length : Int)) then
 zw (α := ((Bool × (List Int)) × ((Bool × (List Int)) × ((Bool × (List Int)) × ((List Int) × (Int × PPt)))))) (fun (x7, x8, x9, x10, x11, x12, x13) next6 =>
 zx (α := ((Bool × (List Int)) × ((Bool × (List Int)) × ((Bool × (List Int)) × ((List Int) × (Int × (Int × (Int × Bool)))))))) (fun (y14, y15, y16, y17, y18, y19, y20, y21) =>
 bif y21 then
 gd (inb (w64 (y18 + y20)) y17.length) <|
 gd (inb y18 y14.2.length) <|
 bnd (qo y15.2 y20) fun r22 =>
 gd (inb (w64 (y18 + y20)) y17.length) <|
 next6 ((y14.1, y14.2), (y15.1, y15.2), (y16.1, y16.2), stL y17 (w64 (y18 + y20)) ((w64 ((w64 ((rdD 0 y17 (w64 (y18 + y20))) + (w64 ((rdD 0 y14.2 y18) * r22)))) + y19)).tmod 65536), y18, w64 ((w64 ((w64 ((rdD 0 y17 (w64 (y18 + y20))) + (w64 ((rdD 0 y14.2 y18) * r22)))) + y19)).tdiv 65536), w64 (y20 + 1))
 else
 next0 ((y14.1, y14.2), (y15.1, y15.2), (y16.1, y16.2), y17, w64 (y18 + 1))) fun j23 =>
 bif decide (x13 < (x8.2.length : Int)) then
 j23 ((x7.1, x7.2), (x8.1, x8.2), (x9.1, x9.2), x10, x11, x12, x13, true)
 else
 j23 ((x7.1, x7.2), (x8.1, x8.2), (x9.1, x9.2), x10, x11, x12, x13, decide (x12 > 0))) k ((x1.1, x1.2), (x2.1, x2.2), (x3.1, x3.2), x4, x5, 0, 0)
 else
 bnd (z6 (!(x1.1 == x2.1)) x4) fun r24 =>
 some (r24.1, r24.2)) k ((a0.1, a0.2), (a1.1, a1.2), (false, []), rpL (w64 ((w64 ((a0.2.length : Int) + (a1.2.length : Int))) + 1)) 0, 0)
theorem zbe (k:Nat) (qo:(List Int)→Int→Option Int) (z6:Bool→(List Int)→Option (Bool×(List Int))) (a0:(Bool×(List Int))) (a1:(Bool×(List Int))):zN [⟨97,[.d (.sl kI),.d kI],[kI],fun x=>qo (x.1) (x.2),none⟩,⟨98,[.d .bool,.d (.sl kI)],[.pair .bool (.sl kI)],fun x=>z6 (x.1) (x.2),none⟩] tb k Tryz.f103 Kb [.d (.pair .bool (.sl kI)),.d (.pair .bool (.sl kI))] [.pair .bool (.sl kI)] (a0,a1)=QD k qo z6 a0 a1:=by kernel_rfl
def zK (k:Nat) (a0:(Bool×(List Int))) (a1:(Bool×(List Int))):Option (Bool×(List Int)):=QD k (qG k) (zu k) a0 a1
theorem Zt (k:Nat):zv Tryz.prog 103 [.d (.pair .bool (.sl kI)),.d (.pair .bool (.sl kI))] [.pair .bool (.sl kI)] (fun x=>zK k (x.1) (x.2)):=fun x y h=>zh zO mix (zo.cons (ze.of rfl (KA k)) (zo.cons (ze.of rfl (QP k)) (zo.nil _))) Tryz.func103 (N:=k) (an:=Kb) (by kernel_rfl) x y ((zbe k (qG k) (zu k) (x.1) (x.2)).trans h)
def K4:Ann:=uNn uLf (uNn (.node (some [(2,.box [.d (.pair .bool (.sl kI))])]) none uLf uLf) uLf)
def qm (k : Nat) (a0 : (Bool × (List Int))) : Option (Bool × (List Int)) :=
 zx (α := (Bool × (List Int))) (fun (y0, y1) =>
 some (y0, y1)) fun j2 =>
 bif !a0.1 then
 j2 (decide ((a0.2.length : Int) > 0), a0.2)
 else
 j2 (false, a0.2)
theorem zcC (k:Nat) (a0:(Bool×(List Int))):zN [] tb k Tryz.f66 K4 [.d (.pair .bool (.sl kI))] [.pair .bool (.sl kI)] a0=qm k a0:=by kernel_rfl
theorem JO (k:Nat):zv Tryz.prog 66 [.d (.pair .bool (.sl kI))] [.pair .bool (.sl kI)] (fun x=>qm k x):=fun x y h=>zh zO mix (zo.nil _) Tryz.func66 (N:=k) (an:=K4) (by kernel_rfl) x y ((zcC k x).trans h)
def XG:Ann:=uNn uLf (uNn uLf (uNn (uNn uLf (uNn (.node none (some [(0,.d (.sl kI)),(1,.d (.sl kI)),(5,.d kI)]) uLf uLf) uLf)) uLf))
def jO (k : Nat) (a0 : (List Int)) (a1 : (List Int)) : Option Int :=
 bif !(decide ((a0.length : Int) = (a1.length : Int))) then
 some (w64 ((a0.length : Int) - (a1.length : Int)))
 else
 zw (α := ((List Int) × ((List Int) × Int))) (fun (x1, x2, x3) next0 =>
 bif decide (x3 ≥ 0) then
 gd (inb x3 x1.length) <|
 gd (inb x3 x2.length) <|
 bif !(decide ((rdD 0 x1 x3) = (rdD 0 x2 x3))) then
 gd (inb x3 x1.length) <|
 gd (inb x3 x2.length) <|
 some (w64 ((rdD 0 x1 x3) - (rdD 0 x2 x3)))
 else
 next0 (x1, x2, w64 (x3 - 1))
 else
 some 0) k (a0, a1, w64 ((a0.length : Int) - 1))
theorem zfr (k:Nat) (a0:(List Int)) (a1:(List Int)):zN [] tb k Tryz.f99 XG [.d (.sl kI),.d (.sl kI)] [kI] (a0,a1)=jO k a0 a1:=by kernel_rfl
theorem zcp (k:Nat):zv Tryz.prog 99 [.d (.sl kI),.d (.sl kI)] [kI] (fun x=>jO k (x.1) (x.2)):=fun x y h=>zh zO mix (zo.nil _) Tryz.func99 (N:=k) (an:=XG) (by kernel_rfl) x y ((zfr k (x.1) (x.2)).trans h)
def Kz:Ann:=uNn uLf (uNn uLf (uNn uLf (uNn (uNn uLf (uNn (uNn (uNn uLf (uNn (.node none (some [(2,.box [.d (.pair .bool (.sl kI))]),(3,.box [.d (.pair .bool (.sl kI))]),(4,.box [.d .bool,.row kI 3]),(5,.row kI 3),(6,.d kI),(7,.d kI)]) (uNn (uNn (.node (some [(2,.box [.d (.pair .bool (.sl kI))]),(3,.box [.d (.pair .bool (.sl kI))]),(4,.box [.d .bool,.row kI 3]),(5,.row kI 3),(6,.d kI),(7,.d kI),(33,.d .bool)]) none uLf uLf) uLf) uLf) uLf) uLf)) uLf) uLf)) (uNn uLf (uNn uLf (uNn (uNn uLf (.node (some [(4,.box [.d .bool,.row kI 3]),(5,.row kI 3),(6,.d kI),(9,.box [.d (.pair .bool (.sl kI))]),(10,.box [.d (.pair .bool (.sl kI))])]) none uLf uLf)) (uNn (uNn uLf (uNn (.node none (some [(4,.box [.d .bool,.row kI 3]),(5,.row kI 3),(6,.d kI),(9,.box [.d (.pair .bool (.sl kI))]),(10,.box [.d (.pair .bool (.sl kI))]),(11,.d kI)]) (uNn uLf (uNn (uNn (uNn uLf (uNn uLf (uNn (uNn uLf (.node (some [(4,.box [.d .bool,.row kI 3]),(5,.row kI 3),(6,.d kI),(9,.box [.d (.pair .bool (.sl kI))]),(10,.box [.d (.pair .bool (.sl kI))]),(11,.d kI),(12,.d kI)]) none uLf uLf)) uLf))) uLf) uLf)) uLf) uLf)) uLf)))))))
def Zl (k : Nat) (qo : (List Int) → Int → Option Int) (z6 : Bool → (List Int) → Option (Bool × (List Int))) (QH : (List Int) → (List Int) → Option Int) (a0 : (Bool × (List Int))) (a1 : (Bool × (List Int))) : Option (Bool × (List Int)) :=
 bif a0.1 == a1.1 then
 zw (α := ((Bool × (List Int)) × ((Bool × (List Int)) × ((Bool × (List Int)) × ((List Int) × PPt))))) (fun (x1, x2, x3, x4, x5, x6) next0 =>
 zx (α := ((Bool × (List Int)) × ((Bool × (List Int)) × ((Bool × (List Int)) × ((List Int) × (Int × (Int × Bool))))))) (fun (y7, y8, y9, y10, y11, y12, y13) =>
 bif y13 then
 bnd (qo y7.2 y12) fun r14 =>
 bnd (qo y8.2 y12) fun r15 =>
 gd (few (y10.length + 1)) <|
 next0 ((y7.1, y7.2), (y8.1, y8.2), (y9.1, y9.2), y10 ++ [(w64 ((w64 (r14 + r15)) + y11)).tmod 65536], w64 ((w64 ((w64 (r14 + r15)) + y11)).tdiv 65536), w64 (y12 + 1))
 else
 bnd (z6 y7.1 y10) fun r16 =>
 some (r16.1, r16.2)) fun j17 =>
 bif decide (x6 < (x1.2.length : Int)) then
 j17 ((x1.1, x1.2), (x2.1, x2.2), (x3.1, x3.2), x4, x5, x6, true)
 else
 bif decide (x6 < (x2.2.length : Int)) then
 j17 ((x1.1, x1.2), (x2.1, x2.2), (x3.1, x3.2), x4, x5, x6, true)
 else
 j17 ((x1.1, x1.2), (x2.1, x2.2), (x3.1, x3.2), x4, x5, x6, decide (x5 > 0))) k ((a0.1, a0.2), (a1.1, a1.2), (false, []), [], 0, 0)
 else
 bnd (QH a0.2 a1.2) fun r18 =>
 zx (α := ((Bool × (List Int)) × ((List Int) × (Int × ((Bool × (List Int)) × (Bool × (List Int))))))) (fun (y19, y20, y21, y22, y23, y24) =>
 zw (α := ((Bool × (List Int)) × ((List Int) × (Int × ((Bool × (List Int)) × ((Bool × (List Int)) × Int)))))) (fun (x26, x27, x28, x29, x30, x31) next25 =>
 bif decide (x31 < (x29.2.length : Int)) then
 gd (inb x31 x29.2.length) <|
 bnd (qo x30.2 x31) fun r32 =>
 zx (α := ((Bool × (List Int)) × ((List Int) × (Int × ((Bool × (List Int)) × ((Bool × (List Int)) × PPt)))))) (fun (y33, y34, y35, y36, y37, y38, y39) =>
 gd (few (y34.length + 1)) <|
 next25 ((y33.1, y33.2), y34 ++ [y39], y35, (y36.1, y36.2), (y37.1, y37.2), w64 (y38 + 1))) fun j40 =>
 bif decide ((w64 ((w64 ((rdD 0 x29.2 x31) - r32)) - x28)) < 0) then
 j40 ((x26.1, x26.2), x27, 1, (x29.1, x29.2), (x30.1, x30.2), x31, w64 ((w64 ((w64 ((rdD 0 x29.2 x31) - r32)) - x28)) + 65536))
 else
 j40 ((x26.1, x26.2), x27, 0, (x29.1, x29.2), (x30.1, x30.2), x31, w64 ((w64 ((rdD 0 x29.2 x31) - r32)) - x28))
 else
 bnd (z6 x29.1 x27) fun r41 =>
 some (r41.1, r41.2)) k ((y19.1, y19.2), y20, y21, (y22.1, y22.2), (y23, y24), 0)) fun j42 =>
 bif decide (r18 < 0) then
 j42 ((false, []), [], 0, (a1.1, a1.2), a0.1, a0.2)
 else
 j42 ((false, []), [], 0, (a0.1, a0.2), a1.1, a1.2)
theorem zbM (k:Nat) (qo:(List Int)→Int→Option Int) (z6:Bool→(List Int)→Option (Bool×(List Int))) (QH:(List Int)→(List Int)→Option Int) (a0:(Bool×(List Int))) (a1:(Bool×(List Int))):zN [⟨97,[.d (.sl kI),.d kI],[kI],fun x=>qo (x.1) (x.2),none⟩,⟨98,[.d .bool,.d (.sl kI)],[.pair .bool (.sl kI)],fun x=>z6 (x.1) (x.2),none⟩,⟨99,[.d (.sl kI),.d (.sl kI)],[kI],fun x=>QH (x.1) (x.2),none⟩] tb k Tryz.f64 Kz [.d (.pair .bool (.sl kI)),.d (.pair .bool (.sl kI))] [.pair .bool (.sl kI)] (a0,a1)=Zl k qo z6 QH a0 a1:=by kernel_rfl
def zD (k:Nat) (a0:(Bool×(List Int))) (a1:(Bool×(List Int))):Option (Bool×(List Int)):=Zl k (qG k) (zu k) (jO k) a0 a1
theorem jE (k:Nat):zv Tryz.prog 64 [.d (.pair .bool (.sl kI)),.d (.pair .bool (.sl kI))] [.pair .bool (.sl kI)] (fun x=>zD k (x.1) (x.2)):=fun x y h=>zh zO mix (zo.cons (ze.of rfl (KA k)) (zo.cons (ze.of rfl (QP k)) (zo.cons (ze.of rfl (zcp k)) (zo.nil _)))) Tryz.func64 (N:=k) (an:=Kz) (by kernel_rfl) x y ((zbM k (qG k) (zu k) (jO k) (x.1) (x.2)).trans h)
def YQ:Ann:=uLf
def JI (k : Nat) (qv : (Bool × (List Int)) → Option (Bool × (List Int))) (zz : (Bool × (List Int)) → (Bool × (List Int)) → Option (Bool × (List Int))) (a0 : (Bool × (List Int))) (a1 : (Bool × (List Int))) : Option (Bool × (List Int)) :=
 bnd (qv (a1.1, a1.2)) fun r0 =>
 bnd (zz (a0.1, a0.2) (r0.1, r0.2)) fun r1 =>
 some (r1.1, r1.2)
theorem zdP (k:Nat) (qv:(Bool×(List Int))→Option (Bool×(List Int))) (zz:(Bool×(List Int))→(Bool×(List Int))→Option (Bool×(List Int))) (a0:(Bool×(List Int))) (a1:(Bool×(List Int))):zN [⟨66,[.d (.pair .bool (.sl kI))],[.pair .bool (.sl kI)],fun x=>qv x,none⟩,⟨64,[.d (.pair .bool (.sl kI)),.d (.pair .bool (.sl kI))],[.pair .bool (.sl kI)],fun x=>zz (x.1) (x.2),none⟩] tb k Tryz.f143 YQ [.d (.pair .bool (.sl kI)),.d (.pair .bool (.sl kI))] [.pair .bool (.sl kI)] (a0,a1)=JI k qv zz a0 a1:=by kernel_rfl
def jD (k:Nat) (a0:(Bool×(List Int))) (a1:(Bool×(List Int))):Option (Bool×(List Int)):=JI k (qm k) (zD k) a0 a1
theorem zbA (k:Nat):zv Tryz.prog 143 [.d (.pair .bool (.sl kI)),.d (.pair .bool (.sl kI))] [.pair .bool (.sl kI)] (fun x=>jD k (x.1) (x.2)):=fun x y h=>zh zO mix (zo.cons (ze.of rfl (JO k)) (zo.cons (ze.of rfl (jE k)) (zo.nil _))) Tryz.func143 (N:=k) (an:=YQ) (by kernel_rfl) x y ((zdP k (qm k) (zD k) (x.1) (x.2)).trans h)
def X2:Ann:=uLf
def KQ (k : Nat) (zF : (Bool × (List Int)) → (Bool × (List Int)) → Option (Bool × (List Int))) (Qe : (Bool × (List Int)) → (Bool × (List Int)) → Option (Bool × (List Int))) (a0 : (Bool × (List Int))) (a1 : (Bool × (List Int))) (a2 : (Bool × (List Int))) (a3 : (Bool × (List Int))) : Option (Bool × (List Int)) :=
 bnd (zF (a0.1, a0.2) (a3.1, a3.2)) fun r0 =>
 bnd (zF (a1.1, a1.2) (a2.1, a2.2)) fun r1 =>
 bnd (Qe (r0.1, r0.2) (r1.1, r1.2)) fun r2 =>
 some (r2.1, r2.2)
theorem zfS (k:Nat) (zF:(Bool×(List Int))→(Bool×(List Int))→Option (Bool×(List Int))) (Qe:(Bool×(List Int))→(Bool×(List Int))→Option (Bool×(List Int))) (a0:(Bool×(List Int))) (a1:(Bool×(List Int))) (a2:(Bool×(List Int))) (a3:(Bool×(List Int))):zN [⟨103,[.d (.pair .bool (.sl kI)),.d (.pair .bool (.sl kI))],[.pair .bool (.sl kI)],fun x=>zF (x.1) (x.2),none⟩,⟨143,[.d (.pair .bool (.sl kI)),.d (.pair .bool (.sl kI))],[.pair .bool (.sl kI)],fun x=>Qe (x.1) (x.2),none⟩] tb k Tryz.f100 X2 [.d (.pair .bool (.sl kI)),.d (.pair .bool (.sl kI)),.d (.pair .bool (.sl kI)),.d (.pair .bool (.sl kI))] [.pair .bool (.sl kI)] (a0,a1,a2,a3)=KQ k zF Qe a0 a1 a2 a3:=by kernel_rfl
def q8 (k:Nat) (a0:(Bool×(List Int))) (a1:(Bool×(List Int))) (a2:(Bool×(List Int))) (a3:(Bool×(List Int))):Option (Bool×(List Int)):=KQ k (zK k) (jD k) a0 a1 a2 a3
theorem zcR (k:Nat):zv Tryz.prog 100 [.d (.pair .bool (.sl kI)),.d (.pair .bool (.sl kI)),.d (.pair .bool (.sl kI)),.d (.pair .bool (.sl kI))] [.pair .bool (.sl kI)] (fun x=>q8 k (x.1) (x.2.1) (x.2.2.1) (x.2.2.2)):=fun x y h=>zh zO mix (zo.cons (ze.of rfl (Zt k)) (zo.cons (ze.of rfl (zbA k)) (zo.nil _))) Tryz.func100 (N:=k) (an:=X2) (by kernel_rfl) x y ((zfS k (zK k) (jD k) (x.1) (x.2.1) (x.2.2.1) (x.2.2.2)).trans h)
def XF:Ann:=uLf
def Kl (k : Nat) (qe : Int → Option (Bool × (List Int))) (jY : (Bool × (List Int)) → (Bool × (List Int)) → (Bool × (List Int)) → (Bool × (List Int)) → Option (Bool × (List Int))) (zz : (Bool × (List Int)) → (Bool × (List Int)) → Option (Bool × (List Int))) (a0 : PPt) (a1 : PPt) (a2 : PPt) : Option (Bool × (List Int)) :=
 bnd (qe a0.1) fun r0 =>
 bnd (qe a0.2) fun r1 =>
 bnd (qe a1.1) fun r2 =>
 bnd (qe a1.2) fun r3 =>
 bnd (jY (r0.1, r0.2) (r1.1, r1.2) (r2.1, r2.2) (r3.1, r3.2)) fun r4 =>
 bnd (qe a1.1) fun r5 =>
 bnd (qe a1.2) fun r6 =>
 bnd (qe a2.1) fun r7 =>
 bnd (qe a2.2) fun r8 =>
 bnd (jY (r5.1, r5.2) (r6.1, r6.2) (r7.1, r7.2) (r8.1, r8.2)) fun r9 =>
 bnd (zz (r4.1, r4.2) (r9.1, r9.2)) fun r10 =>
 bnd (qe a2.1) fun r11 =>
 bnd (qe a2.2) fun r12 =>
 bnd (qe a0.1) fun r13 =>
 bnd (qe a0.2) fun r14 =>
 bnd (jY (r11.1, r11.2) (r12.1, r12.2) (r13.1, r13.2) (r14.1, r14.2)) fun r15 =>
 bnd (zz (r10.1, r10.2) (r15.1, r15.2)) fun r16 =>
 some (r16.1, r16.2)
theorem zey (k:Nat) (qe:Int→Option (Bool×(List Int))) (jY:(Bool×(List Int))→(Bool×(List Int))→(Bool×(List Int))→(Bool×(List Int))→Option (Bool×(List Int))) (zz:(Bool×(List Int))→(Bool×(List Int))→Option (Bool×(List Int))) (a0:PPt) (a1:PPt) (a2:PPt):zN [⟨101,[.d kI],[.pair .bool (.sl kI)],fun x=>qe x,none⟩,⟨100,[.d (.pair .bool (.sl kI)),.d (.pair .bool (.sl kI)),.d (.pair .bool (.sl kI)),.d (.pair .bool (.sl kI))],[.pair .bool (.sl kI)],fun x=>jY (x.1) (x.2.1) (x.2.2.1) (x.2.2.2),none⟩,⟨64,[.d (.pair .bool (.sl kI)),.d (.pair .bool (.sl kI))],[.pair .bool (.sl kI)],fun x=>zz (x.1) (x.2),none⟩] tb k Tryz.f65 XF [.d kPP,.d kPP,.d kPP] [.pair .bool (.sl kI)] (a0,a1,a2)=Kl k qe jY zz a0 a1 a2:=by kernel_rfl
def Zy (k:Nat) (a0:PPt) (a1:PPt) (a2:PPt):Option (Bool×(List Int)):=Kl k (ZT k) (q8 k) (zD k) a0 a1 a2
theorem zcF (k:Nat):zv Tryz.prog 65 [.d kPP,.d kPP,.d kPP] [.pair .bool (.sl kI)] (fun x=>Zy k (x.1) (x.2.1) (x.2.2)):=fun x y h=>zh zO mix (zo.cons (ze.of rfl (zdu k)) (zo.cons (ze.of rfl (zcR k)) (zo.cons (ze.of rfl (jE k)) (zo.nil _)))) Tryz.func65 (N:=k) (an:=XF) (by kernel_rfl) x y ((zey k (ZT k) (q8 k) (zD k) (x.1) (x.2.1) (x.2.2)).trans h)
def KI:Ann:=uLf
def zW (k : Nat) (a0 : (Bool × (List Int))) : Option Int :=
 bif decide ((a0.2.length : Int) = 0) then
 some 0
 else
 bif a0.1 then
 some (-1)
 else
 some 1
theorem zbD (k:Nat) (a0:(Bool×(List Int))):zN [] tb k Tryz.f67 KI [.d (.pair .bool (.sl kI))] [kI] a0=zW k a0:=by kernel_rfl
theorem ZA (k:Nat):zv Tryz.prog 67 [.d (.pair .bool (.sl kI))] [kI] (fun x=>zW k x):=fun x y h=>zh zO mix (zo.nil _) Tryz.func67 (N:=k) (an:=KI) (by kernel_rfl) x y ((zbD k x).trans h)
def Ys:Ann:=uNn uLf (uNn (uNn (.node (some [(3,.box [.d kPP]),(4,.box [.d kPP]),(5,.box [.d kPP]),(19,.d .bool)]) none uLf uLf) uLf) uLf)
def Jm (k : Nat) (zp : PPt → Option Bool) (QI : PPt → PPt → PPt → Option (Bool × (List Int))) (zQ : (Bool × (List Int)) → Option Int) (a0 : PPt) (a1 : PPt) (a2 : PPt) : Option Int :=
 zx (α := (PPt × (PPt × (PPt × Bool)))) (fun (y0, y1, y2, y3) =>
 bif y3 then
 some 0
 else
 bnd (QI (y0.1, y0.2) (y1.1, y1.2) (y2.1, y2.2)) fun r4 =>
 bnd (zQ (r4.1, r4.2)) fun r5 =>
 some r5) fun j6 =>
 bnd (zp (a0.1, a0.2)) fun r7 =>
 bif !r7 then
 j6 ((a0.1, a0.2), (a1.1, a1.2), (a2.1, a2.2), true)
 else
 bnd (zp (a1.1, a1.2)) fun r8 =>
 bif !r8 then
 j6 ((a0.1, a0.2), (a1.1, a1.2), (a2.1, a2.2), true)
 else
 bnd (zp (a2.1, a2.2)) fun r9 =>
 j6 ((a0.1, a0.2), (a1.1, a1.2), (a2.1, a2.2), !r9)
theorem zdx (k:Nat) (zp:PPt→Option Bool) (QI:PPt→PPt→PPt→Option (Bool×(List Int))) (zQ:(Bool×(List Int))→Option Int) (a0:PPt) (a1:PPt) (a2:PPt):zN [⟨72,[.d kPP],[.bool],fun x=>zp x,none⟩,⟨65,[.d kPP,.d kPP,.d kPP],[.pair .bool (.sl kI)],fun x=>QI (x.1) (x.2.1) (x.2.2),none⟩,⟨67,[.d (.pair .bool (.sl kI))],[kI],fun x=>zQ x,none⟩] tb k Tryz.f73 Ys [.d kPP,.d kPP,.d kPP] [kI] (a0,a1,a2)=Jm k zp QI zQ a0 a1 a2:=by kernel_rfl
def qX (k:Nat) (a0:PPt) (a1:PPt) (a2:PPt):Option Int:=Jm k (zX k) (Zy k) (zW k) a0 a1 a2
theorem Kg (k:Nat):zv Tryz.prog 73 [.d kPP,.d kPP,.d kPP] [kI] (fun x=>qX k (x.1) (x.2.1) (x.2.2)):=fun x y h=>zh zO mix (zo.cons (ze.of rfl (jy k)) (zo.cons (ze.of rfl (zcF k)) (zo.cons (ze.of rfl (ZA k)) (zo.nil _)))) Tryz.func73 (N:=k) (an:=Ys) (by kernel_rfl) x y ((zdx k (zX k) (Zy k) (zW k) (x.1) (x.2.1) (x.2.2)).trans h)
def YE:Ann:=uNn uLf (uNn uLf (uNn (uNn uLf (uNn (.node none (some [(0,.d (.sl (.pair kI kPP))),(3,.row (.sl kI) 49),(4,.d kI)]) uLf uLf) uLf)) uLf))
def jv (k : Nat) (a0 : LTr) : Option (List (List Int)) :=
 zw (α := (LTr × ((List (List Int)) × Int))) (fun (x1, x2, x3) next0 =>
 bif decide (x3 < (x1.length : Int)) then
 gd (inb x3 x1.length) <|
 gd (inb x3 x1.length) <|
 gd (inb x3 x1.length) <|
 gd (few (x2.length + 1)) <|
 next0 (x1, x2 ++ [[(rdD (0, 0, 0) x1 x3).1, (rdD (0, 0, 0) x1 x3).2.1, (rdD (0, 0, 0) x1 x3).2.2]], w64 (x3 + 1))
 else
 some x2) k (a0, [], 0)
theorem zd1 (k:Nat) (a0:LTr):zN [] tb k Tryz.f31 YE [.d (.sl (.pair kI kPP))] [.sl (.sl kI)] a0=jv k a0:=by kernel_rfl
theorem zbJ (k:Nat):zv Tryz.prog 31 [.d (.sl (.pair kI kPP))] [.sl (.sl kI)] (fun x=>jv k x):=fun x y h=>zh zO mix (zo.nil _) Tryz.func31 (N:=k) (an:=YE) (by kernel_rfl) x y ((zd1 k x).trans h)
end
end Go.Proofs.YtpkkcjmblocjdaaGreat.AM
