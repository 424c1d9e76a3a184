/- The functions, by their texts: written by a program. -/
import Derived.Test.YtpkkcjmblocjdaaGreatGa4
import Derived.Test.YtpkkcjmblocjdaaGreatCln
set_option linter.unusedVariables false
set_option linter.unusedSimpArgs false
set_option linter.unusedSectionVars false
set_option maxRecDepth 100000
namespace Go.Proofs.YtpkkcjmblocjdaaGreat.AM
open Go.RowKit Go.Proofs
noncomputable section
def KK:Ann:=uNn uLf (uNn uLf (uNn (uNn uLf (uNn (.node none (some [(0,.d kLP),(1,.d kLP),(5,.d kI)]) uLf uLf) uLf)) uLf))
def qT (k : Nat) (a0 : LPt) (a1 : LPt) : Option Bool :=
 bif !(decide ((a0.length : Int) = (a1.length : Int))) then
 some false
 else
 zA (α := (LPt × (LPt × Int))) (fun (x1, x2, x3) next0 =>
 bif decide (x3 < (x1.length : Int)) then
 gd (inb x3 x1.length) <|
 gd (inb x3 x2.length) <|
 bif !((decide ((rdD (0, 0) x1 x3).1 = (rdD (0, 0) x2 x3).1)) && (decide ((rdD (0, 0) x1 x3).2 = (rdD (0, 0) x2 x3).2))) then
 some false
 else
 next0 (x1, x2, w64 (x3 + 1))
 else
 some true) k (a0, a1, 0)
theorem zcf (k:Nat) (a0:LPt) (a1:LPt):zP [] tb k Tryz.f17 KK [.d kLP,.d kLP] [.bool] (a0,a1)=qT k a0 a1:=by kernel_rfl
theorem zaP (k:Nat):zx Tryz.prog 17 [.d kLP,.d kLP] [.bool] (fun x=>qT k (x.1) (x.2)):=fun x y h=>zk zR mix (zp.nil _) Tryz.func17 (N:=k) (an:=KK) (by kernel_rfl) x y ((zcf k (x.1) (x.2)).trans h)
def KO:Ann:=uNn uLf (uNn uLf (uNn (uNn uLf (uNn (.node none (some [(0,.d (.sl (.pair kI kPP))),(1,.d (.sl (.pair kI kPP))),(5,.d kI)]) uLf uLf) uLf)) uLf))
def qS (k : Nat) (a0 : LTr) (a1 : LTr) : Option Bool :=
 bif !(decide ((a0.length : Int) = (a1.length : Int))) then
 some false
 else
 zA (α := (LTr × (LTr × Int))) (fun (x1, x2, x3) next0 =>
 bif decide (x3 < (x1.length : Int)) then
 gd (inb x3 x1.length) <|
 gd (inb x3 x2.length) <|
 bif !((decide ((rdD (0, 0, 0) x1 x3).1 = (rdD (0, 0, 0) x2 x3).1)) && ((decide ((rdD (0, 0, 0) x1 x3).2.1 = (rdD (0, 0, 0) x2 x3).2.1)) && (decide ((rdD (0, 0, 0) x1 x3).2.2 = (rdD (0, 0, 0) x2 x3).2.2)))) then
 some false
 else
 next0 (x1, x2, w64 (x3 + 1))
 else
 some true) k (a0, a1, 0)
theorem zb8 (k:Nat) (a0:LTr) (a1:LTr):zP [] tb k Tryz.f44 KO [.d (.sl (.pair kI kPP)),.d (.sl (.pair kI kPP))] [.bool] (a0,a1)=qS k a0 a1:=by kernel_rfl
theorem zaD (k:Nat):zx Tryz.prog 44 [.d (.sl (.pair kI kPP)),.d (.sl (.pair kI kPP))] [.bool] (fun x=>qS k (x.1) (x.2)):=fun x y h=>zk zR mix (zp.nil _) Tryz.func44 (N:=k) (an:=KO) (by kernel_rfl) x y ((zb8 k (x.1) (x.2)).trans h)
def zgN:Ann:=uLf
def Ks (k : Nat) (a0 : (Int × PPt)) : Option (PPt × (PPt × PPt)) :=
 some ((a0.1, a0.2.1), (a0.2.1, a0.2.2), a0.2.2, a0.1)
theorem zmh (k:Nat) (a0:(Int×PPt)):zP [] tb k Tryz.f60 zgN [.d (.pair kI kPP)] [.pair kPP (.pair kPP kPP)] a0=Ks k a0:=by kernel_rfl
theorem ziD (k:Nat):zx Tryz.prog 60 [.d (.pair kI kPP)] [.pair kPP (.pair kPP kPP)] (fun x=>Ks k x):=fun x y h=>zk zR mix (zp.nil _) Tryz.func60 (N:=k) (an:=zgN) (by kernel_rfl) x y ((zmh k x).trans h)
def zgA:Ann:=uNn uLf (uNn uLf (uNn (uNn uLf (uNn (.node none (some [(1,.box [.d (.pair kLP (.pair (.sl (.pair kI kPP)) kLP))]),(3,.mp kPP .bool),(16,.d (.sl (.pair kI kPP))),(17,.d kI),(18,.d kI)]) (uNn uLf (uNn uLf (uNn (uNn (uNn uLf (uNn (uNn uLf (uNn (.node (some [(1,.box [.d (.pair kLP (.pair (.sl (.pair kI kPP)) kLP))]),(3,.mp kPP .bool),(5,.box [.d (.pair kI kPP)]),(16,.d (.sl (.pair kI kPP))),(17,.d kI),(18,.d kI),(56,.d .bool)]) none uLf uLf) uLf)) (uNn uLf (uNn (.node none (some [(1,.box [.d (.pair kLP (.pair (.sl (.pair kI kPP)) kLP))]),(3,.mp kPP .bool),(16,.d (.sl (.pair kI kPP))),(17,.d kI),(18,.d kI),(58,.d (.pair kPP (.pair kPP kPP))),(59,.d kI)]) (uNn uLf (uNn uLf (uNn (uNn (uNn (.node (some [(1,.box [.d (.pair kLP (.pair (.sl (.pair kI kPP)) kLP))]),(3,.mp kPP .bool),(9,.box [.d kPP]),(16,.d (.sl (.pair kI kPP))),(17,.d kI),(18,.d kI),(58,.d (.pair kPP (.pair kPP kPP))),(59,.d kI)]) none uLf uLf) uLf) uLf) uLf))) uLf) uLf)))) uLf) uLf))) uLf) uLf)) (uNn uLf (uNn (uNn uLf (uNn (.node none (some [(1,.box [.d (.pair kLP (.pair (.sl (.pair kI kPP)) kLP))]),(3,.mp kPP .bool),(10,.mp kPP .bool),(71,.d kLP),(72,.d kI),(73,.d kI)]) (uNn uLf (uNn uLf (uNn (uNn (uNn uLf (uNn (uNn (.node (some [(1,.box [.d (.pair kLP (.pair (.sl (.pair kI kPP)) kLP))]),(3,.mp kPP .bool),(10,.mp kPP .bool),(12,.box [.d kPP]),(71,.d kLP),(72,.d kI),(73,.d kI),(113,.d .bool)]) none uLf uLf) uLf) uLf)) uLf) uLf))) uLf) uLf)) (uNn (uNn uLf (uNn (.node none (some [(3,.mpf kPP .bool),(10,.mp kPP .bool),(118,.it kPP .bool)]) (uNn uLf (uNn uLf (uNn (uNn uLf (uNn (.node (some [(3,.d (.mp kPP .bool)),(10,.mp kPP .bool),(118,.it kPP .bool),(137,.d .bool)]) none uLf uLf) uLf)) uLf))) uLf) uLf)) uLf)))))
def zdR (k : Nat) (Js : LPt → Int → Int → Int → Option ((Int × PPt) × Bool)) (zaO : (Int × PPt) → (Int × PPt) → Option Int) (zaX : (Int × PPt) → Option (PPt × (PPt × PPt))) (zaG : PPt → PPt → Option Int) (Qo : PPt → Option PPt) (a0 : TMs) : Option Int :=
 zA (α := (TMs × ((List (PPt × Bool)) × (LTr × PPt)))) (fun (x1, x2, x3, x4, x5) next0 =>
 bif decide (x5 < x4) then
 gd (inb x5 x3.length) <|
 bnd (Js x1.1 (rdD (0, 0, 0) x3 x5).1 (rdD (0, 0, 0) x3 x5).2.1 (rdD (0, 0, 0) x3 x5).2.2) fun r6 =>
 zz (α := (TMs × ((List (PPt × Bool)) × ((Int × PPt) × (LTr × (Int × (Int × Bool))))))) (fun (y7, y8, y9, y10, y11, y12, y13) =>
 bif y13 then
 some 2
 else
 bnd (zaX (y9.1, y9.2.1, y9.2.2)) fun r14 =>
 zA (α := (TMs × ((List (PPt × Bool)) × (LTr × (Int × (Int × ((PPt × (PPt × PPt)) × Int))))))) (fun (x16, x17, x18, x19, x20, x21, x22) next15 =>
 bif decide (x22 < 3) then
 zz (α := (TMs × ((List (PPt × Bool)) × (PPt × (LTr × (Int × (Int × ((PPt × (PPt × PPt)) × Int)))))))) (fun (y23, y24, y25, y26, y27, y28, y29, y30) =>
 bif toT Bool (lkM (.pair (.int .i64) (.int .i64)) .bool y24 (y25.1, y25.2)) then
 some 2
 else
 gd (!(hsM (.pair (.int .i64) (.int .i64)) .bool y24 (y25.1, y25.2))) <|
 next15 ((y23.1, y23.2.1, y23.2.2), adM (.pair (.int .i64) (.int .i64)) .bool y24 (y25.1, y25.2) true, y26, y27, y28, ((y29.1.1, y29.1.2), (y29.2.1.1, y29.2.1.2), y29.2.2.1, y29.2.2.2), w64 (y30 + 1))) fun j31 =>
 bif decide (x22 = 0) then
 j31 ((x16.1, x16.2.1, x16.2.2), x17, (x21.1.1, x21.1.2), x18, x19, x20, ((x21.1.1, x21.1.2), (x21.2.1.1, x21.2.1.2), x21.2.2.1, x21.2.2.2), x22)
 else
 bif decide (x22 = 1) then
 j31 ((x16.1, x16.2.1, x16.2.2), x17, (x21.2.1.1, x21.2.1.2), x18, x19, x20, ((x21.1.1, x21.1.2), (x21.2.1.1, x21.2.1.2), x21.2.2.1, x21.2.2.2), x22)
 else
 bif decide (x22 = 2) then
 j31 ((x16.1, x16.2.1, x16.2.2), x17, (x21.2.2.1, x21.2.2.2), x18, x19, x20, ((x21.1.1, x21.1.2), (x21.2.1.1, x21.2.1.2), x21.2.2.1, x21.2.2.2), x22)
 else
 none
 else
 next0 ((x16.1, x16.2.1, x16.2.2), x17, x18, x19, w64 (x20 + 1))) k ((y7.1, y7.2.1, y7.2.2), y8, y10, y11, y12, ((r14.1.1, r14.1.2), (r14.2.1.1, r14.2.1.2), r14.2.2.1, r14.2.2.2), 0)) fun j32 =>
 bif !r6.2 then
 j32 ((x1.1, x1.2.1, x1.2.2), x2, ((rdD (0, 0, 0) x3 x5).1, (rdD (0, 0, 0) x3 x5).2.1, (rdD (0, 0, 0) x3 x5).2.2), x3, x4, x5, true)
 else
 bif !((decide (r6.1.1 = (rdD (0, 0, 0) x3 x5).1)) && ((decide (r6.1.2.1 = (rdD (0, 0, 0) x3 x5).2.1)) && (decide (r6.1.2.2 = (rdD (0, 0, 0) x3 x5).2.2)))) then
 j32 ((x1.1, x1.2.1, x1.2.2), x2, ((rdD (0, 0, 0) x3 x5).1, (rdD (0, 0, 0) x3 x5).2.1, (rdD (0, 0, 0) x3 x5).2.2), x3, x4, x5, true)
 else
 bif decide (x5 > 0) then
 gd (inb (w64 (x5 - 1)) x1.2.1.length) <|
 bnd (zaO ((rdD (0, 0, 0) x1.2.1 (w64 (x5 - 1))).1, (rdD (0, 0, 0) x1.2.1 (w64 (x5 - 1))).2.1, (rdD (0, 0, 0) x1.2.1 (w64 (x5 - 1))).2.2) ((rdD (0, 0, 0) x3 x5).1, (rdD (0, 0, 0) x3 x5).2.1, (rdD (0, 0, 0) x3 x5).2.2)) fun r33 =>
 j32 ((x1.1, x1.2.1, x1.2.2), x2, ((rdD (0, 0, 0) x3 x5).1, (rdD (0, 0, 0) x3 x5).2.1, (rdD (0, 0, 0) x3 x5).2.2), x3, x4, x5, decide (r33 ≥ 0))
 else
 j32 ((x1.1, x1.2.1, x1.2.2), x2, ((rdD (0, 0, 0) x3 x5).1, (rdD (0, 0, 0) x3 x5).2.1, (rdD (0, 0, 0) x3 x5).2.2), x3, x4, x5, false)
 else
 zA (α := (TMs × ((List (PPt × Bool)) × ((List (PPt × Bool)) × (LPt × PPt))))) (fun (x35, x36, x37, x38, x39, x40) next34 =>
 bif decide (x40 < x39) then
 gd (inb x40 x38.length) <|
 zz (α := (TMs × ((List (PPt × Bool)) × ((List (PPt × Bool)) × (PPt × (LPt × (Int × (Int × Bool)))))))) (fun (y41, y42, y43, y44, y45, y46, y47, y48) =>
 bif y48 then
 some 2
 else
 gd (!(hsM (.pair (.int .i64) (.int .i64)) .bool y43 (y44.1, y44.2))) <|
 next34 ((y41.1, y41.2.1, y41.2.2), y42, adM (.pair (.int .i64) (.int .i64)) .bool y43 (y44.1, y44.2) true, y45, y46, w64 (y47 + 1))) fun j49 =>
 bif decide ((rdD (0, 0) x38 x40).1 ≥ (rdD (0, 0) x38 x40).2) then
 j49 ((x35.1, x35.2.1, x35.2.2), x36, x37, ((rdD (0, 0) x38 x40).1, (rdD (0, 0) x38 x40).2), x38, x39, x40, true)
 else
 bif decide (x40 > 0) then
 gd (inb (w64 (x40 - 1)) x35.2.2.length) <|
 bnd (zaG ((rdD (0, 0) x35.2.2 (w64 (x40 - 1))).1, (rdD (0, 0) x35.2.2 (w64 (x40 - 1))).2) ((rdD (0, 0) x38 x40).1, (rdD (0, 0) x38 x40).2)) fun r50 =>
 bif decide (r50 ≥ 0) then
 j49 ((x35.1, x35.2.1, x35.2.2), x36, x37, ((rdD (0, 0) x38 x40).1, (rdD (0, 0) x38 x40).2), x38, x39, x40, true)
 else
 bif !(toT Bool (lkM (.pair (.int .i64) (.int .i64)) .bool x36 ((rdD (0, 0) x38 x40).1, (rdD (0, 0) x38 x40).2))) then
 j49 ((x35.1, x35.2.1, x35.2.2), x36, x37, ((rdD (0, 0) x38 x40).1, (rdD (0, 0) x38 x40).2), x38, x39, x40, !(toT Bool (lkM (.pair (.int .i64) (.int .i64)) .bool x36 ((rdD (0, 0) x38 x40).2, (rdD (0, 0) x38 x40).1))))
 else
 j49 ((x35.1, x35.2.1, x35.2.2), x36, x37, ((rdD (0, 0) x38 x40).1, (rdD (0, 0) x38 x40).2), x38, x39, x40, false)
 else
 bif !(toT Bool (lkM (.pair (.int .i64) (.int .i64)) .bool x36 ((rdD (0, 0) x38 x40).1, (rdD (0, 0) x38 x40).2))) then
 j49 ((x35.1, x35.2.1, x35.2.2), x36, x37, ((rdD (0, 0) x38 x40).1, (rdD (0, 0) x38 x40).2), x38, x39, x40, !(toT Bool (lkM (.pair (.int .i64) (.int .i64)) .bool x36 ((rdD (0, 0) x38 x40).2, (rdD (0, 0) x38 x40).1))))
 else
 j49 ((x35.1, x35.2.1, x35.2.2), x36, x37, ((rdD (0, 0) x38 x40).1, (rdD (0, 0) x38 x40).2), x38, x39, x40, false)
 else
 zA (α := ((List (PPt × Bool)) × ((List (PPt × Bool)) × (List (PPt × Bool))))) (fun (x52, x53, x54) next51 =>
 nxt x54 (
 some 0) (fun (e56, e57) r55 =>
 zz (α := ((List (PPt × Bool)) × ((List (PPt × Bool)) × ((List (PPt × Bool)) × Bool)))) (fun (y58, y59, y60, y61) =>
 bif y61 then
 some 2
 else
 next51 (y58, y59, y60)) fun j62 =>
 bif !(toT Bool (lkM (.pair (.int .i64) (.int .i64)) .bool x52 (e56.2, e56.1))) then
 bnd (Qo (e56.1, e56.2)) fun r63 =>
 j62 (x52, x53, r55, !(toT Bool (lkM (.pair (.int .i64) (.int .i64)) .bool x53 (r63.1, r63.2))))
 else
 j62 (x52, x53, r55, false))) k (x36, x37, x36)) k ((x1.1, x1.2.1, x1.2.2), x2, [], x1.2.2, (x1.2.2.length : Int), 0)) k ((a0.1, a0.2.1, a0.2.2), [], a0.2.1, (a0.2.1.length : Int), 0)
theorem zl8 (k:Nat) (Js:LPt→Int→Int→Int→Option ((Int×PPt)×Bool)) (zaO:(Int×PPt)→(Int×PPt)→Option Int) (zaX:(Int×PPt)→Option (PPt×(PPt×PPt))) (zaG:PPt→PPt→Option Int) (Qo:PPt→Option PPt) (a0:TMs):zP [⟨40,[.d kLP,.d kI,.d kI,.d kI],[.pair kI kPP,.bool],fun x=>Js (x.1) (x.2.1) (x.2.2.1) (x.2.2.2),none⟩,⟨57,[.d (.pair kI kPP),.d (.pair kI kPP)],[kI],fun x=>zaO (x.1) (x.2),none⟩,⟨60,[.d (.pair kI kPP)],[.pair kPP (.pair kPP kPP)],fun x=>zaX x,none⟩,⟨49,[.d kPP,.d kPP],[kI],fun x=>zaG (x.1) (x.2),none⟩,⟨61,[.d kPP],[.pair kI kI],fun x=>Qo x,none⟩] tb k Tryz.f21 zgA [.d (.pair kLP (.pair (.sl (.pair kI kPP)) kLP))] [kI] a0=zdR k Js zaO zaX zaG Qo a0:=by kernel_rfl
def QI (k:Nat) (a0:TMs):Option Int:=zdR k (Z3 k) (Jj k) (Ks k) (QH k) (JA k) a0
theorem zcy (k:Nat):zx Tryz.prog 21 [.d (.pair kLP (.pair (.sl (.pair kI kPP)) kLP))] [kI] (fun x=>QI k x):=fun x y h=>zk zR mix (zp.cons (ze.of rfl (zfc k)) (zp.cons (ze.of rfl (zcw k)) (zp.cons (ze.of rfl (ziD k)) (zp.cons (ze.of rfl (zcG k)) (zp.cons (ze.of rfl (zb3 k)) (zp.nil _)))))) Tryz.func21 (N:=k) (an:=zgA) (by kernel_rfl) x y ((zl8 k (Z3 k) (Jj k) (Ks k) (QH k) (JA k) x).trans h)
def Xl:Ann:=uNn uLf (uNn uLf (uNn uLf (uNn uLf (uNn uLf (uNn (.node (some [(0,.d .bool)]) none uLf uLf) uLf)))))
def J5 (k : Nat) (ZM : TPl → Option (LPt × Int)) (ZV : TPl → Option (TMs × Int)) (Zx : LPt → LPt → Option Bool) (Zv : LTr → LTr → Option Bool) (ZQ : TMs → Option Int) : Option Bool :=
 bnd (ZM ([(0, 0), (4, 0), (4, 4), (0, 4)], [(0, 1), (1, 2), (2, 3), (3, 0)], [])) fun r0 =>
 bnd (ZV ([(0, 0), (4, 0), (4, 4), (0, 4)], [(0, 1), (1, 2), (2, 3), (3, 0)], [])) fun r1 =>
 bnd (ZV ([], [], [])) fun r2 =>
 zz (α := Bool) (fun y3 =>
 some y3) fun j4 =>
 bnd (Zx r0.1 [(0, 1), (0, 2), (0, 3), (1, 2), (2, 3)]) fun r5 =>
 bif r5 then
 bif decide (r0.2 = 0) then
 bnd (Zv r1.1.2.1 [(0, 1, 2), (0, 2, 3)]) fun r6 =>
 bif r6 then
 bif decide (r1.2 = 0) then
 bnd (ZQ (r1.1.1, r1.1.2.1, r1.1.2.2)) fun r7 =>
 bif decide (r7 = 0) then
 j4 (decide (r2.2 = 2))
 else
 j4 false
 else
 j4 false
 else
 j4 false
 else
 j4 false
 else
 j4 false
theorem zeB (k:Nat) (ZM:TPl→Option (LPt×Int)) (ZV:TPl→Option (TMs×Int)) (Zx:LPt→LPt→Option Bool) (Zv:LTr→LTr→Option Bool) (ZQ:TMs→Option Int):zP [⟨13,[.d kPl],[.sl kPP,kI],fun x=>ZM x,none⟩,⟨15,[.d kPl],[.pair kLP (.pair (.sl (.pair kI kPP)) kLP),kI],fun x=>ZV x,none⟩,⟨17,[.d kLP,.d kLP],[.bool],fun x=>Zx (x.1) (x.2),none⟩,⟨44,[.d (.sl (.pair kI kPP)),.d (.sl (.pair kI kPP))],[.bool],fun x=>Zv (x.1) (x.2),none⟩,⟨21,[.d (.pair kLP (.pair (.sl (.pair kI kPP)) kLP))],[kI],fun x=>ZQ x,none⟩] tbx k Tryz.f11 Xl [] [.bool] ()=J5 k ZM ZV Zx Zv ZQ:=by kernel_rfl
def jH (k:Nat):Option Bool:=J5 k (ZJ k) (ZY k) (qT k) (qS k) (QI k)
theorem zcm (k:Nat):zx Tryz.prog 11 [] [.bool] (fun x=>jH k):=fun x y h=>zk zwj mix (zp.cons (ze.of rfl (zcS k)) (zp.cons (ze.of rfl (zd3 k)) (zp.cons (ze.of rfl (zaP k)) (zp.cons (ze.of rfl (zaD k)) (zp.cons (ze.of rfl (zcy k)) (zp.nil _)))))) Tryz.func11 (N:=k) (an:=Xl) (by kernel_rfl) x y ((zeB k (ZJ k) (ZY k) (qT k) (qS k) (QI k)).trans h)
def X9:Ann:=uNn uLf (uNn (.node (some [(2,.d .bool)]) none uLf uLf) uLf)
def zV (k : Nat) (a0 : PPt) : Option Bool :=
 zz (α := Bool) (fun y0 =>
 some y0) fun j1 =>
 bif decide (a0.1 ≥ (-4294967296)) then
 bif decide (a0.1 ≤ 4294967296) then
 bif decide (a0.2 ≥ (-4294967296)) then
 j1 (decide (a0.2 ≤ 4294967296))
 else
 j1 false
 else
 j1 false
 else
 j1 false
theorem zfO (k:Nat) (a0:PPt):zP [] tb k Tryz.f72 X9 [.d kPP] [.bool] a0=zV k a0:=by kernel_rfl
theorem jh (k:Nat):zx Tryz.prog 72 [.d kPP] [.bool] (fun x=>zV k x):=fun x y h=>zk zR mix (zp.nil _) Tryz.func72 (N:=k) (an:=X9) (by kernel_rfl) x y ((zfO k x).trans h)
def zai:Ann:=uNn uLf (uNn uLf (uNn (uNn (.node none (some [(0,.d .bool),(1,.d (.sl kI)),(4,.box [.d .bool,.row kI 3]),(5,.d kI)]) (uNn (uNn (.node (some [(0,.d .bool),(1,.d (.sl kI)),(4,.box [.d .bool,.row kI 3]),(5,.d kI),(17,.d .bool)]) none uLf uLf) uLf) uLf) uLf) uLf) (uNn (.node (some [(4,.box [.d (.pair .bool (.sl kI))])]) none uLf uLf) uLf)))
def zy (k : Nat) (a0 : Bool) (a1 : (List Int)) : Option (Bool × (List Int)) :=
 zA (α := (Bool × ((List Int) × ((Bool × (List Int)) × Int)))) (fun (x1, x2, x3, x4) next0 =>
 zz (α := (Bool × ((List Int) × ((Bool × (List Int)) × (Int × Bool))))) (fun (y5, y6, y7, y8, y9) =>
 bif y9 then
 next0 (y5, y6, (y7.1, y7.2), w64 (y8 - 1))
 else
 zz (α := (Bool × (List Int))) (fun (y10, y11) =>
 some (y10, y11)) fun j12 =>
 bif y5 then
 gd (decide (0 ≤ y8)) <|
 gd (decide (y8 ≤ (y6.length : Int))) <|
 j12 (decide (y8 > 0), tkL y6 y8)
 else
 gd (decide (0 ≤ y8)) <|
 gd (decide (y8 ≤ (y6.length : Int))) <|
 j12 (false, tkL y6 y8)) fun j13 =>
 bif decide (x4 > 0) then
 gd (inb (w64 (x4 - 1)) x2.length) <|
 j13 (x1, x2, (x3.1, x3.2), x4, decide ((rdD 0 x2 (w64 (x4 - 1))) = 0))
 else
 j13 (x1, x2, (x3.1, x3.2), x4, false)) k (a0, a1, (false, []), (a1.length : Int))
theorem zeZ (k:Nat) (a0:Bool) (a1:(List Int)):zP [] tb k Tryz.f98 zai [.d .bool,.d (.sl kI)] [.pair .bool (.sl kI)] (a0,a1)=zy k a0 a1:=by kernel_rfl
theorem Jf (k:Nat):zx Tryz.prog 98 [.d .bool,.d (.sl kI)] [.pair .bool (.sl kI)] (fun x=>zy k (x.1) (x.2)):=fun x y h=>zk zR mix (zp.nil _) Tryz.func98 (N:=k) (an:=zai) (by kernel_rfl) x y ((zeZ k (x.1) (x.2)).trans h)
def Y9:Ann:=uNn uLf (uNn uLf (uNn uLf (uNn (uNn (.node none (some [(0,.d kI),(2,.box [.d .bool,.row kI 3]),(3,.row kI 3),(4,.d kI)]) (uNn uLf (uNn (uNn uLf (uNn (uNn uLf (.node (some [(0,.d kI),(2,.box [.d .bool,.row kI 3]),(3,.row kI 3),(4,.d kI),(5,.d kI)]) none uLf uLf)) uLf)) uLf)) uLf) uLf) uLf)))
def Qx (k : Nat) (z8 : Bool → (List Int) → Option (Bool × (List Int))) (a0 : Int) : Option (Bool × (List Int)) :=
 zA (α := (Int × ((Bool × (List Int)) × ((List Int) × Int)))) (fun (x1, x2, x3, x4) next0 =>
 bif !(decide (x4 = 0)) then
 zz (α := (Int × ((Bool × (List Int)) × ((List Int) × PPt)))) (fun (y5, y6, y7, y8, y9) =>
 gd (few (y7.length + 1)) <|
 next0 (y5, (y6.1, y6.2), y7 ++ [y9], w64 (y8.tdiv 65536))) fun j10 =>
 bif decide ((x4.tmod 65536) < 0) then
 j10 (x1, (x2.1, x2.2), x3, x4, w64 (0 - (x4.tmod 65536)))
 else
 j10 (x1, (x2.1, x2.2), x3, x4, x4.tmod 65536)
 else
 bnd (z8 (decide (x1 < 0)) x3) fun r11 =>
 some (r11.1, r11.2)) k (a0, (false, []), [], a0)
theorem zee (k:Nat) (z8:Bool→(List Int)→Option (Bool×(List Int))) (a0:Int):zP [⟨98,[.d .bool,.d (.sl kI)],[.pair .bool (.sl kI)],fun x=>z8 (x.1) (x.2),none⟩] tb k Tryz.f102 Y9 [.d kI] [.pair .bool (.sl kI)] a0=Qx k z8 a0:=by kernel_rfl
def zO (k:Nat) (a0:Int):Option (Bool×(List Int)):=Qx k (zy k) a0
theorem QN (k:Nat):zx Tryz.prog 102 [.d kI] [.pair .bool (.sl kI)] (fun x=>zO k x):=fun x y h=>zk zR mix (zp.cons (ze.of rfl (Jf k)) (zp.nil _)) Tryz.func102 (N:=k) (an:=Y9) (by kernel_rfl) x y ((zee k (zy k) x).trans h)
def zax:Ann:=uLf
def Ye (k : Nat) (zK : Int → Option (Bool × (List Int))) (a0 : Int) : Option (Bool × (List Int)) :=
 bnd (zK a0) fun r0 =>
 some (r0.1, r0.2)
theorem zgm (k:Nat) (zK:Int→Option (Bool×(List Int))) (a0:Int):zP [⟨102,[.d kI],[.pair .bool (.sl kI)],fun x=>zK x,none⟩] tb k Tryz.f101 zax [.d kI] [.pair .bool (.sl kI)] a0=Ye k zK a0:=by kernel_rfl
def Qa (k:Nat) (a0:Int):Option (Bool×(List Int)):=Ye k (zO k) a0
theorem zdz (k:Nat):zx Tryz.prog 101 [.d kI] [.pair .bool (.sl kI)] (fun x=>Qa k x):=fun x y h=>zk zR mix (zp.cons (ze.of rfl (QN k)) (zp.nil _)) Tryz.func101 (N:=k) (an:=zax) (by kernel_rfl) x y ((zgm k (zO k) x).trans h)
def Xa:Ann:=uLf
def qK (k : Nat) (a0 : (List Int)) (a1 : Int) : Option Int :=
 bif decide (a1 < (a0.length : Int)) then
 gd (inb a1 a0.length) <|
 some (rdD 0 a0 a1)
 else
 some 0
theorem zep (k:Nat) (a0:(List Int)) (a1:Int):zP [] tb k Tryz.f97 Xa [.d (.sl kI),.d kI] [kI] (a0,a1)=qK k a0 a1:=by kernel_rfl
theorem KV (k:Nat):zx Tryz.prog 97 [.d (.sl kI),.d kI] [kI] (fun x=>qK k (x.1) (x.2)):=fun x y h=>zk zR mix (zp.nil _) Tryz.func97 (N:=k) (an:=Xa) (by kernel_rfl) x y ((zep k (x.1) (x.2)).trans h)
def Kx:Ann:=uNn uLf (uNn uLf (uNn (uNn uLf (uNn (.node none (some [(2,.box [.d (.pair .bool (.sl kI))]),(3,.box [.d (.pair .bool (.sl kI))]),(4,.box [.d .bool,.row kI 3]),(5,.row kI 3),(6,.d kI)]) (uNn uLf (uNn (uNn (uNn uLf (uNn uLf (uNn (.node none (some [(2,.box [.d (.pair .bool (.sl kI))]),(3,.box [.d (.pair .bool (.sl kI))]),(4,.box [.d .bool,.row kI 3]),(5,.row kI 3),(6,.d kI),(7,.d kI),(8,.d kI)]) (uNn (uNn (.node (some [(2,.box [.d (.pair .bool (.sl kI))]),(3,.box [.d (.pair .bool (.sl kI))]),(4,.box [.d .bool,.row kI 3]),(5,.row kI 3),(6,.d kI),(7,.d kI),(8,.d kI),(34,.d .bool)]) none uLf uLf) uLf) uLf) uLf) uLf))) uLf) uLf)) uLf) uLf)) uLf))
def QQ (k : Nat) (qw : (List Int) → Int → Option Int) (z8 : Bool → (List Int) → Option (Bool × (List Int))) (a0 : (Bool × (List Int))) (a1 : (Bool × (List Int))) : Option (Bool × (List Int)) :=
 gd (decide (0 ≤ (w64 ((w64 ((a0.2.length : Int) + (a1.2.length : Int))) + 1)))) <|
 gd (zgc (w64 ((w64 ((a0.2.length : Int) + (a1.2.length : Int))) + 1))) <|
 zA (α := ((Bool × (List Int)) × ((Bool × (List Int)) × ((Bool × (List Int)) × ((List Int) × Int))))) (fun (x1, x2, x3, x4, x5) next0 =>
 bif decide (x5 < (x1.2.length : Int)) then
 zA (α := ((Bool × (List Int)) × ((Bool × (List Int)) × ((Bool × (List Int)) × ((List Int) × (Int × PPt)))))) (fun (x7, x8, x9, x10, x11, x12, x13) next6 =>
 zz (α := ((Bool × (List Int)) × ((Bool × (List Int)) × ((Bool × (List Int)) × ((List Int) × (Int × (Int × (Int × Bool)))))))) (fun (y14, y15, y16, y17, y18, y19, y20, y21) =>
 bif y21 then
 gd (inb (w64 (y18 + y20)) y17.length) <|
 gd (inb y18 y14.2.length) <|
 bnd (qw y15.2 y20) fun r22 =>
 gd (inb (w64 (y18 + y20)) y17.length) <|
 next6 ((y14.1, y14.2), (y15.1, y15.2), (y16.1, y16.2), stL y17 (w64 (y18 + y20)) ((w64 ((w64 ((rdD 0 y17 (w64 (y18 + y20))) + (w64 ((rdD 0 y14.2 y18) * r22)))) + y19)).tmod 65536), y18, w64 ((w64 ((w64 ((rdD 0 y17 (w64 (y18 + y20))) + (w64 ((rdD 0 y14.2 y18) * r22)))) + y19)).tdiv 65536), w64 (y20 + 1))
 else
 next0 ((y14.1, y14.2), (y15.1, y15.2), (y16.1, y16.2), y17, w64 (y18 + 1))) fun j23 =>
 bif decide (x13 < (x8.2.length : Int)) then
 j23 ((x7.1, x7.2), (x8.1, x8.2), (x9.1, x9.2), x10, x11, x12, x13, true)
 else
 j23 ((x7.1, x7.2), (x8.1, x8.2), (x9.1, x9.2), x10, x11, x12, x13, decide (x12 > 0))) k ((x1.1, x1.2), (x2.1, x2.2), (x3.1, x3.2), x4, x5, 0, 0)
 else
 bnd (z8 (!(x1.1 == x2.1)) x4) fun r24 =>
 some (r24.1, r24.2)) k ((a0.1, a0.2), (a1.1, a1.2), (false, []), rpL (w64 ((w64 ((a0.2.length : Int) + (a1.2.length : Int))) + 1)) 0, 0)
theorem zbJ (k:Nat) (qw:(List Int)→Int→Option Int) (z8:Bool→(List Int)→Option (Bool×(List Int))) (a0:(Bool×(List Int))) (a1:(Bool×(List Int))):zP [⟨97,[.d (.sl kI),.d kI],[kI],fun x=>qw (x.1) (x.2),none⟩,⟨98,[.d .bool,.d (.sl kI)],[.pair .bool (.sl kI)],fun x=>z8 (x.1) (x.2),none⟩] tb k Tryz.f103 Kx [.d (.pair .bool (.sl kI)),.d (.pair .bool (.sl kI))] [.pair .bool (.sl kI)] (a0,a1)=QQ k qw z8 a0 a1:=by kernel_rfl
def zQ (k:Nat) (a0:(Bool×(List Int))) (a1:(Bool×(List Int))):Option (Bool×(List Int)):=QQ k (qK k) (zy k) a0 a1
theorem ZD (k:Nat):zx Tryz.prog 103 [.d (.pair .bool (.sl kI)),.d (.pair .bool (.sl kI))] [.pair .bool (.sl kI)] (fun x=>zQ k (x.1) (x.2)):=fun x y h=>zk zR mix (zp.cons (ze.of rfl (KV k)) (zp.cons (ze.of rfl (Jf k)) (zp.nil _))) Tryz.func103 (N:=k) (an:=Kx) (by kernel_rfl) x y ((zbJ k (qK k) (zy k) (x.1) (x.2)).trans h)
def Yw:Ann:=uNn uLf (uNn (.node (some [(2,.box [.d (.pair .bool (.sl kI))])]) none uLf uLf) uLf)
def zN (k : Nat) (a0 : (Bool × (List Int))) : Option (Bool × (List Int)) :=
 zz (α := (Bool × (List Int))) (fun (y0, y1) =>
 some (y0, y1)) fun j2 =>
 bif !a0.1 then
 j2 (decide ((a0.2.length : Int) > 0), a0.2)
 else
 j2 (false, a0.2)
theorem zda (k:Nat) (a0:(Bool×(List Int))):zP [] tb k Tryz.f66 Yw [.d (.pair .bool (.sl kI))] [.pair .bool (.sl kI)] a0=zN k a0:=by kernel_rfl
theorem jS (k:Nat):zx Tryz.prog 66 [.d (.pair .bool (.sl kI))] [.pair .bool (.sl kI)] (fun x=>zN k x):=fun x y h=>zk zR mix (zp.nil _) Tryz.func66 (N:=k) (an:=Yw) (by kernel_rfl) x y ((zda k x).trans h)
def zag:Ann:=uNn uLf (uNn uLf (uNn (uNn uLf (uNn (.node none (some [(0,.d (.sl kI)),(1,.d (.sl kI)),(5,.d kI)]) uLf uLf) uLf)) uLf))
def j0 (k : Nat) (a0 : (List Int)) (a1 : (List Int)) : Option Int :=
 bif !(decide ((a0.length : Int) = (a1.length : Int))) then
 some (w64 ((a0.length : Int) - (a1.length : Int)))
 else
 zA (α := ((List Int) × ((List Int) × Int))) (fun (x1, x2, x3) next0 =>
 bif decide (x3 ≥ 0) then
 gd (inb x3 x1.length) <|
 gd (inb x3 x2.length) <|
 bif !(decide ((rdD 0 x1 x3) = (rdD 0 x2 x3))) then
 gd (inb x3 x1.length) <|
 gd (inb x3 x2.length) <|
 some (w64 ((rdD 0 x1 x3) - (rdD 0 x2 x3)))
 else
 next0 (x1, x2, w64 (x3 - 1))
 else
 some 0) k (a0, a1, w64 ((a0.length : Int) - 1))
theorem zfg (k:Nat) (a0:(List Int)) (a1:(List Int)):zP [] tb k Tryz.f99 zag [.d (.sl kI),.d (.sl kI)] [kI] (a0,a1)=j0 k a0 a1:=by kernel_rfl
theorem zcV (k:Nat):zx Tryz.prog 99 [.d (.sl kI),.d (.sl kI)] [kI] (fun x=>j0 k (x.1) (x.2)):=fun x y h=>zk zR mix (zp.nil _) Tryz.func99 (N:=k) (an:=zag) (by kernel_rfl) x y ((zfg k (x.1) (x.2)).trans h)
def K1:Ann:=uNn uLf (uNn uLf (uNn uLf (uNn (uNn uLf (uNn (uNn (uNn uLf (uNn (.node none (some [(2,.box [.d (.pair .bool (.sl kI))]),(3,.box [.d (.pair .bool (.sl kI))]),(4,.box [.d .bool,.row kI 3]),(5,.row kI 3),(6,.d kI),(7,.d kI)]) (uNn (uNn (.node (some [(2,.box [.d (.pair .bool (.sl kI))]),(3,.box [.d (.pair .bool (.sl kI))]),(4,.box [.d .bool,.row kI 3]),(5,.row kI 3),(6,.d kI),(7,.d kI),(33,.d .bool)]) none uLf uLf) uLf) uLf) uLf) uLf)) uLf) uLf)) (uNn uLf (uNn uLf (uNn (uNn uLf (.node (some [(4,.box [.d .bool,.row kI 3]),(5,.row kI 3),(6,.d kI),(9,.box [.d (.pair .bool (.sl kI))]),(10,.box [.d (.pair .bool (.sl kI))])]) none uLf uLf)) (uNn (uNn uLf (uNn (.node none (some [(4,.box [.d .bool,.row kI 3]),(5,.row kI 3),(6,.d kI),(9,.box [.d (.pair .bool (.sl kI))]),(10,.box [.d (.pair .bool (.sl kI))]),(11,.d kI)]) (uNn uLf (uNn (uNn (uNn uLf (uNn uLf (uNn (uNn uLf (.node (some [(4,.box [.d .bool,.row kI 3]),(5,.row kI 3),(6,.d kI),(9,.box [.d (.pair .bool (.sl kI))]),(10,.box [.d (.pair .bool (.sl kI))]),(11,.d kI),(12,.d kI)]) none uLf uLf)) uLf))) uLf) uLf)) uLf) uLf)) uLf)))))))
def Zw (k : Nat) (qw : (List Int) → Int → Option Int) (z8 : Bool → (List Int) → Option (Bool × (List Int))) (QY : (List Int) → (List Int) → Option Int) (a0 : (Bool × (List Int))) (a1 : (Bool × (List Int))) : Option (Bool × (List Int)) :=
 bif a0.1 == a1.1 then
 zA (α := ((Bool × (List Int)) × ((Bool × (List Int)) × ((Bool × (List Int)) × ((List Int) × PPt))))) (fun (x1, x2, x3, x4, x5, x6) next0 =>
 zz (α := ((Bool × (List Int)) × ((Bool × (List Int)) × ((Bool × (List Int)) × ((List Int) × (Int × (Int × Bool))))))) (fun (y7, y8, y9, y10, y11, y12, y13) =>
 bif y13 then
 bnd (qw y7.2 y12) fun r14 =>
 bnd (qw y8.2 y12) fun r15 =>
 gd (few (y10.length + 1)) <|
 next0 ((y7.1, y7.2), (y8.1, y8.2), (y9.1, y9.2), y10 ++ [(w64 ((w64 (r14 + r15)) + y11)).tmod 65536], w64 ((w64 ((w64 (r14 + r15)) + y11)).tdiv 65536), w64 (y12 + 1))
 else
 bnd (z8 y7.1 y10) fun r16 =>
 some (r16.1, r16.2)) fun j17 =>
 bif decide (x6 < (x1.2.length : Int)) then
 j17 ((x1.1, x1.2), (x2.1, x2.2), (x3.1, x3.2), x4, x5, x6, true)
 else
 bif decide (x6 < (x2.2.length : Int)) then
 j17 ((x1.1, x1.2), (x2.1, x2.2), (x3.1, x3.2), x4, x5, x6, true)
 else
 j17 ((x1.1, x1.2), (x2.1, x2.2), (x3.1, x3.2), x4, x5, x6, decide (x5 > 0))) k ((a0.1, a0.2), (a1.1, a1.2), (false, []), [], 0, 0)
 else
 bnd (QY a0.2 a1.2) fun r18 =>
 zz (α := ((Bool × (List Int)) × ((List Int) × (Int × ((Bool × (List Int)) × (Bool × (List Int))))))) (fun (y19, y20, y21, y22, y23, y24) =>
 zA (α := ((Bool × (List Int)) × ((List Int) × (Int × ((Bool × (List Int)) × ((Bool × (List Int)) × Int)))))) (fun (x26, x27, x28, x29, x30, x31) next25 =>
 bif decide (x31 < (x29.2.length : Int)) then
 gd (inb x31 x29.2.length) <|
 bnd (qw x30.2 x31) fun r32 =>
 zz (α := ((Bool × (List Int)) × ((List Int) × (Int × ((Bool × (List Int)) × ((Bool × (List Int)) × PPt)))))) (fun (y33, y34, y35, y36, y37, y38, y39) =>
 gd (few (y34.length + 1)) <|
 next25 ((y33.1, y33.2), y34 ++ [y39], y35, (y36.1, y36.2), (y37.1, y37.2), w64 (y38 + 1))) fun j40 =>
 bif decide ((w64 ((w64 ((rdD 0 x29.2 x31) - r32)) - x28)) < 0) then
 j40 ((x26.1, x26.2), x27, 1, (x29.1, x29.2), (x30.1, x30.2), x31, w64 ((w64 ((w64 ((rdD 0 x29.2 x31) - r32)) - x28)) + 65536))
 else
 j40 ((x26.1, x26.2), x27, 0, (x29.1, x29.2), (x30.1, x30.2), x31, w64 ((w64 ((rdD 0 x29.2 x31) - r32)) - x28))
 else
 bnd (z8 x29.1 x27) fun r41 =>
 some (r41.1, r41.2)) k ((y19.1, y19.2), y20, y21, (y22.1, y22.2), (y23, y24), 0)) fun j42 =>
 bif decide (r18 < 0) then
 j42 ((false, []), [], 0, (a1.1, a1.2), a0.1, a0.2)
 else
 j42 ((false, []), [], 0, (a0.1, a0.2), a1.1, a1.2)
theorem zcb (k:Nat) (qw:(List Int)→Int→Option Int) (z8:Bool→(List Int)→Option (Bool×(List Int))) (QY:(List Int)→(List Int)→Option Int) (a0:(Bool×(List Int))) (a1:(Bool×(List Int))):zP [⟨97,[.d (.sl kI),.d kI],[kI],fun x=>qw (x.1) (x.2),none⟩,⟨98,[.d .bool,.d (.sl kI)],[.pair .bool (.sl kI)],fun x=>z8 (x.1) (x.2),none⟩,⟨99,[.d (.sl kI),.d (.sl kI)],[kI],fun x=>QY (x.1) (x.2),none⟩] tb k Tryz.f64 K1 [.d (.pair .bool (.sl kI)),.d (.pair .bool (.sl kI))] [.pair .bool (.sl kI)] (a0,a1)=Zw k qw z8 QY a0 a1:=by kernel_rfl
def zn (k:Nat) (a0:(Bool×(List Int))) (a1:(Bool×(List Int))):Option (Bool×(List Int)):=Zw k (qK k) (zy k) (j0 k) a0 a1
theorem qq (k:Nat):zx Tryz.prog 64 [.d (.pair .bool (.sl kI)),.d (.pair .bool (.sl kI))] [.pair .bool (.sl kI)] (fun x=>zn k (x.1) (x.2)):=fun x y h=>zk zR mix (zp.cons (ze.of rfl (KV k)) (zp.cons (ze.of rfl (Jf k)) (zp.cons (ze.of rfl (zcV k)) (zp.nil _)))) Tryz.func64 (N:=k) (an:=K1) (by kernel_rfl) x y ((zcb k (qK k) (zy k) (j0 k) (x.1) (x.2)).trans h)
def Xk:Ann:=uLf
def J3 (k : Nat) (zH : (Bool × (List Int)) → Option (Bool × (List Int))) (zh : (Bool × (List Int)) → (Bool × (List Int)) → Option (Bool × (List Int))) (a0 : (Bool × (List Int))) (a1 : (Bool × (List Int))) : Option (Bool × (List Int)) :=
 bnd (zH (a1.1, a1.2)) fun r0 =>
 bnd (zh (a0.1, a0.2) (r0.1, r0.2)) fun r1 =>
 some (r1.1, r1.2)
theorem zej (k:Nat) (zH:(Bool×(List Int))→Option (Bool×(List Int))) (zh:(Bool×(List Int))→(Bool×(List Int))→Option (Bool×(List Int))) (a0:(Bool×(List Int))) (a1:(Bool×(List Int))):zP [⟨66,[.d (.pair .bool (.sl kI))],[.pair .bool (.sl kI)],fun x=>zH x,none⟩,⟨64,[.d (.pair .bool (.sl kI)),.d (.pair .bool (.sl kI))],[.pair .bool (.sl kI)],fun x=>zh (x.1) (x.2),none⟩] tb k Tryz.f143 Xk [.d (.pair .bool (.sl kI)),.d (.pair .bool (.sl kI))] [.pair .bool (.sl kI)] (a0,a1)=J3 k zH zh a0 a1:=by kernel_rfl
def jM (k:Nat) (a0:(Bool×(List Int))) (a1:(Bool×(List Int))):Option (Bool×(List Int)):=J3 k (zN k) (zn k) a0 a1
theorem zcp (k:Nat):zx Tryz.prog 143 [.d (.pair .bool (.sl kI)),.d (.pair .bool (.sl kI))] [.pair .bool (.sl kI)] (fun x=>jM k (x.1) (x.2)):=fun x y h=>zk zR mix (zp.cons (ze.of rfl (jS k)) (zp.cons (ze.of rfl (qq k)) (zp.nil _))) Tryz.func143 (N:=k) (an:=Xk) (by kernel_rfl) x y ((zej k (zN k) (zn k) (x.1) (x.2)).trans h)
def zaA:Ann:=uLf
def Yf (k : Nat) (zI : (Bool × (List Int)) → (Bool × (List Int)) → Option (Bool × (List Int))) (QA : (Bool × (List Int)) → (Bool × (List Int)) → Option (Bool × (List Int))) (a0 : (Bool × (List Int))) (a1 : (Bool × (List Int))) (a2 : (Bool × (List Int))) (a3 : (Bool × (List Int))) : Option (Bool × (List Int)) :=
 bnd (zI (a0.1, a0.2) (a3.1, a3.2)) fun r0 =>
 bnd (zI (a1.1, a1.2) (a2.1, a2.2)) fun r1 =>
 bnd (QA (r0.1, r0.2) (r1.1, r1.2)) fun r2 =>
 some (r2.1, r2.2)
theorem zgo (k:Nat) (zI:(Bool×(List Int))→(Bool×(List Int))→Option (Bool×(List Int))) (QA:(Bool×(List Int))→(Bool×(List Int))→Option (Bool×(List Int))) (a0:(Bool×(List Int))) (a1:(Bool×(List Int))) (a2:(Bool×(List Int))) (a3:(Bool×(List Int))):zP [⟨103,[.d (.pair .bool (.sl kI)),.d (.pair .bool (.sl kI))],[.pair .bool (.sl kI)],fun x=>zI (x.1) (x.2),none⟩,⟨143,[.d (.pair .bool (.sl kI)),.d (.pair .bool (.sl kI))],[.pair .bool (.sl kI)],fun x=>QA (x.1) (x.2),none⟩] tb k Tryz.f100 zaA [.d (.pair .bool (.sl kI)),.d (.pair .bool (.sl kI)),.d (.pair .bool (.sl kI)),.d (.pair .bool (.sl kI))] [.pair .bool (.sl kI)] (a0,a1,a2,a3)=Yf k zI QA a0 a1 a2 a3:=by kernel_rfl
def jm (k:Nat) (a0:(Bool×(List Int))) (a1:(Bool×(List Int))) (a2:(Bool×(List Int))) (a3:(Bool×(List Int))):Option (Bool×(List Int)):=Yf k (zQ k) (jM k) a0 a1 a2 a3
theorem zdX (k:Nat):zx Tryz.prog 100 [.d (.pair .bool (.sl kI)),.d (.pair .bool (.sl kI)),.d (.pair .bool (.sl kI)),.d (.pair .bool (.sl kI))] [.pair .bool (.sl kI)] (fun x=>jm k (x.1) (x.2.1) (x.2.2.1) (x.2.2.2)):=fun x y h=>zk zR mix (zp.cons (ze.of rfl (ZD k)) (zp.cons (ze.of rfl (zcp k)) (zp.nil _))) Tryz.func100 (N:=k) (an:=zaA) (by kernel_rfl) x y ((zgo k (zQ k) (jM k) (x.1) (x.2.1) (x.2.2.1) (x.2.2.2)).trans h)
def XT:Ann:=uLf
def KC (k : Nat) (qh : Int → Option (Bool × (List Int))) (Zj : (Bool × (List Int)) → (Bool × (List Int)) → (Bool × (List Int)) → (Bool × (List Int)) → Option (Bool × (List Int))) (zh : (Bool × (List Int)) → (Bool × (List Int)) → Option (Bool × (List Int))) (a0 : PPt) (a1 : PPt) (a2 : PPt) : Option (Bool × (List Int)) :=
 bnd (qh a0.1) fun r0 =>
 bnd (qh a0.2) fun r1 =>
 bnd (qh a1.1) fun r2 =>
 bnd (qh a1.2) fun r3 =>
 bnd (Zj (r0.1, r0.2) (r1.1, r1.2) (r2.1, r2.2) (r3.1, r3.2)) fun r4 =>
 bnd (qh a1.1) fun r5 =>
 bnd (qh a1.2) fun r6 =>
 bnd (qh a2.1) fun r7 =>
 bnd (qh a2.2) fun r8 =>
 bnd (Zj (r5.1, r5.2) (r6.1, r6.2) (r7.1, r7.2) (r8.1, r8.2)) fun r9 =>
 bnd (zh (r4.1, r4.2) (r9.1, r9.2)) fun r10 =>
 bnd (qh a2.1) fun r11 =>
 bnd (qh a2.2) fun r12 =>
 bnd (qh a0.1) fun r13 =>
 bnd (qh a0.2) fun r14 =>
 bnd (Zj (r11.1, r11.2) (r12.1, r12.2) (r13.1, r13.2) (r14.1, r14.2)) fun r15 =>
 bnd (zh (r10.1, r10.2) (r15.1, r15.2)) fun r16 =>
 some (r16.1, r16.2)
theorem zeK (k:Nat) (qh:Int→Option (Bool×(List Int))) (Zj:(Bool×(List Int))→(Bool×(List Int))→(Bool×(List Int))→(Bool×(List Int))→Option (Bool×(List Int))) (zh:(Bool×(List Int))→(Bool×(List Int))→Option (Bool×(List Int))) (a0:PPt) (a1:PPt) (a2:PPt):zP [⟨101,[.d kI],[.pair .bool (.sl kI)],fun x=>qh x,none⟩,⟨100,[.d (.pair .bool (.sl kI)),.d (.pair .bool (.sl kI)),.d (.pair .bool (.sl kI)),.d (.pair .bool (.sl kI))],[.pair .bool (.sl kI)],fun x=>Zj (x.1) (x.2.1) (x.2.2.1) (x.2.2.2),none⟩,⟨64,[.d (.pair .bool (.sl kI)),.d (.pair .bool (.sl kI))],[.pair .bool (.sl kI)],fun x=>zh (x.1) (x.2),none⟩] tb k Tryz.f65 XT [.d kPP,.d kPP,.d kPP] [.pair .bool (.sl kI)] (a0,a1,a2)=KC k qh Zj zh a0 a1 a2:=by kernel_rfl
def qu (k:Nat) (a0:PPt) (a1:PPt) (a2:PPt):Option (Bool×(List Int)):=KC k (Qa k) (jm k) (zn k) a0 a1 a2
theorem Ja (k:Nat):zx Tryz.prog 65 [.d kPP,.d kPP,.d kPP] [.pair .bool (.sl kI)] (fun x=>qu k (x.1) (x.2.1) (x.2.2)):=fun x y h=>zk zR mix (zp.cons (ze.of rfl (zdz k)) (zp.cons (ze.of rfl (zdX k)) (zp.cons (ze.of rfl (qq k)) (zp.nil _)))) Tryz.func65 (N:=k) (an:=XT) (by kernel_rfl) x y ((zeK k (Qa k) (jm k) (zn k) (x.1) (x.2.1) (x.2.2)).trans h)
def KI:Ann:=uLf
def zD (k : Nat) (a0 : (Bool × (List Int))) : Option Int :=
 bif decide ((a0.2.length : Int) = 0) then
 some 0
 else
 bif a0.1 then
 some (-1)
 else
 some 1
theorem zcl (k:Nat) (a0:(Bool×(List Int))):zP [] tb k Tryz.f67 KI [.d (.pair .bool (.sl kI))] [kI] a0=zD k a0:=by kernel_rfl
theorem je (k:Nat):zx Tryz.prog 67 [.d (.pair .bool (.sl kI))] [kI] (fun x=>zD k x):=fun x y h=>zk zR mix (zp.nil _) Tryz.func67 (N:=k) (an:=KI) (by kernel_rfl) x y ((zcl k x).trans h)
def YH:Ann:=uNn uLf (uNn (uNn (.node (some [(3,.box [.d kPP]),(4,.box [.d kPP]),(5,.box [.d kPP]),(19,.d .bool)]) none uLf uLf) uLf) uLf)
def JL (k : Nat) (zm : PPt → Option Bool) (qk : PPt → PPt → PPt → Option (Bool × (List Int))) (zv : (Bool × (List Int)) → Option Int) (a0 : PPt) (a1 : PPt) (a2 : PPt) : Option Int :=
 zz (α := (PPt × (PPt × (PPt × Bool)))) (fun (y0, y1, y2, y3) =>
 bif y3 then
 some 0
 else
 bnd (qk (y0.1, y0.2) (y1.1, y1.2) (y2.1, y2.2)) fun r4 =>
 bnd (zv (r4.1, r4.2)) fun r5 =>
 some r5) fun j6 =>
 bnd (zm (a0.1, a0.2)) fun r7 =>
 bif !r7 then
 j6 ((a0.1, a0.2), (a1.1, a1.2), (a2.1, a2.2), true)
 else
 bnd (zm (a1.1, a1.2)) fun r8 =>
 bif !r8 then
 j6 ((a0.1, a0.2), (a1.1, a1.2), (a2.1, a2.2), true)
 else
 bnd (zm (a2.1, a2.2)) fun r9 =>
 j6 ((a0.1, a0.2), (a1.1, a1.2), (a2.1, a2.2), !r9)
theorem zdS (k:Nat) (zm:PPt→Option Bool) (qk:PPt→PPt→PPt→Option (Bool×(List Int))) (zv:(Bool×(List Int))→Option Int) (a0:PPt) (a1:PPt) (a2:PPt):zP [⟨72,[.d kPP],[.bool],fun x=>zm x,none⟩,⟨65,[.d kPP,.d kPP,.d kPP],[.pair .bool (.sl kI)],fun x=>qk (x.1) (x.2.1) (x.2.2),none⟩,⟨67,[.d (.pair .bool (.sl kI))],[kI],fun x=>zv x,none⟩] tb k Tryz.f73 YH [.d kPP,.d kPP,.d kPP] [kI] (a0,a1,a2)=JL k zm qk zv a0 a1 a2:=by kernel_rfl
def qy (k:Nat) (a0:PPt) (a1:PPt) (a2:PPt):Option Int:=JL k (zV k) (qu k) (zD k) a0 a1 a2
theorem Qk (k:Nat):zx Tryz.prog 73 [.d kPP,.d kPP,.d kPP] [kI] (fun x=>qy k (x.1) (x.2.1) (x.2.2)):=fun x y h=>zk zR mix (zp.cons (ze.of rfl (jh k)) (zp.cons (ze.of rfl (Ja k)) (zp.cons (ze.of rfl (je k)) (zp.nil _)))) Tryz.func73 (N:=k) (an:=YH) (by kernel_rfl) x y ((zdS k (zV k) (qu k) (zD k) (x.1) (x.2.1) (x.2.2)).trans h)
def zay:Ann:=uNn uLf (uNn uLf (uNn (uNn (.node (some [(0,.d kLP),(1,.d kI),(2,.d kI),(3,.d kI),(8,.box [.d (.pair kI kPP)]),(56,.d .bool)]) none uLf uLf) uLf) (uNn uLf (uNn (uNn uLf (uNn (.node none (some [(0,.d kLP),(8,.box [.d (.pair kI kPP)]),(11,.row (.pair kI kPP) 56),(12,.d kI)]) (uNn uLf (uNn (uNn (uNn uLf (uNn (.node (some [(0,.d kLP),(8,.box [.d (.pair kI kPP)]),(11,.row (.pair kI kPP) 56),(12,.d kI),(13,.box [.d (.pair kI kPP)]),(121,.d .bool)]) none uLf uLf) uLf)) uLf) uLf)) uLf) uLf)) uLf))))
def Yi (k : Nat) (zU : PPt → PPt → PPt → Option Int) (a0 : LPt) (a1 : Int) (a2 : Int) (a3 : Int) : Option ((Int × PPt) × Bool) :=
 zz (α := (LPt × (Int × (Int × (Int × ((Int × PPt) × Bool)))))) (fun (y0, y1, y2, y3, y4, y5) =>
 bif y5 then
 some ((0, 0, 0), false)
 else
 zA (α := (LPt × ((Int × PPt) × (LTr × Int)))) (fun (x7, x8, x9, x10) next6 =>
 bif decide (x10 < 6) then
 gd (inb x10 x9.length) <|
 zz (α := (LPt × ((Int × PPt) × (LTr × (Int × ((Int × PPt) × Bool)))))) (fun (y11, y12, y13, y14, y15, y16) =>
 bif y16 then
 some ((y15.1, y15.2.1, y15.2.2), true)
 else
 next6 (y11, (y12.1, y12.2.1, y12.2.2), y13, w64 (y14 + 1))) fun j17 =>
 bif decide ((rdD (0, 0, 0) x9 x10).1 < (rdD (0, 0, 0) x9 x10).2.1) then
 bif decide ((rdD (0, 0, 0) x9 x10).1 < (rdD (0, 0, 0) x9 x10).2.2) then
 gd (inb (rdD (0, 0, 0) x9 x10).1 x7.length) <|
 gd (inb (rdD (0, 0, 0) x9 x10).2.1 x7.length) <|
 gd (inb (rdD (0, 0, 0) x9 x10).2.2 x7.length) <|
 bnd (zU ((rdD (0, 0) x7 (rdD (0, 0, 0) x9 x10).1).1, (rdD (0, 0) x7 (rdD (0, 0, 0) x9 x10).1).2) ((rdD (0, 0) x7 (rdD (0, 0, 0) x9 x10).2.1).1, (rdD (0, 0) x7 (rdD (0, 0, 0) x9 x10).2.1).2) ((rdD (0, 0) x7 (rdD (0, 0, 0) x9 x10).2.2).1, (rdD (0, 0) x7 (rdD (0, 0, 0) x9 x10).2.2).2)) fun r18 =>
 j17 (x7, (x8.1, x8.2.1, x8.2.2), x9, x10, ((rdD (0, 0, 0) x9 x10).1, (rdD (0, 0, 0) x9 x10).2.1, (rdD (0, 0, 0) x9 x10).2.2), decide (r18 = 1))
 else
 j17 (x7, (x8.1, x8.2.1, x8.2.2), x9, x10, ((rdD (0, 0, 0) x9 x10).1, (rdD (0, 0, 0) x9 x10).2.1, (rdD (0, 0, 0) x9 x10).2.2), false)
 else
 j17 (x7, (x8.1, x8.2.1, x8.2.2), x9, x10, ((rdD (0, 0, 0) x9 x10).1, (rdD (0, 0, 0) x9 x10).2.1, (rdD (0, 0, 0) x9 x10).2.2), false)
 else
 some ((0, 0, 0), false)) k (y0, (y4.1, y4.2.1, y4.2.2), [(y1, y2, y3), (y2, y3, y1), (y3, y1, y2), (y1, y3, y2), (y3, y2, y1), (y2, y1, y3)], 0)) fun j19 =>
 bif decide (a1 < 0) then
 j19 (a0, a1, a2, a3, (0, 0, 0), true)
 else
 bif decide (a2 < 0) then
 j19 (a0, a1, a2, a3, (0, 0, 0), true)
 else
 bif decide (a3 < 0) then
 j19 (a0, a1, a2, a3, (0, 0, 0), true)
 else
 bif decide (a1 ≥ (a0.length : Int)) then
 j19 (a0, a1, a2, a3, (0, 0, 0), true)
 else
 bif decide (a2 ≥ (a0.length : Int)) then
 j19 (a0, a1, a2, a3, (0, 0, 0), true)
 else
 bif decide (a3 ≥ (a0.length : Int)) then
 j19 (a0, a1, a2, a3, (0, 0, 0), true)
 else
 gd (inb a1 a0.length) <|
 gd (inb a2 a0.length) <|
 gd (inb a3 a0.length) <|
 bnd (zU ((rdD (0, 0) a0 a1).1, (rdD (0, 0) a0 a1).2) ((rdD (0, 0) a0 a2).1, (rdD (0, 0) a0 a2).2) ((rdD (0, 0) a0 a3).1, (rdD (0, 0) a0 a3).2)) fun r20 =>
 j19 (a0, a1, a2, a3, (0, 0, 0), decide (r20 = 0))
theorem zgf (k:Nat) (zU:PPt→PPt→PPt→Option Int) (a0:LPt) (a1:Int) (a2:Int) (a3:Int):zP [⟨73,[.d kPP,.d kPP,.d kPP],[kI],fun x=>zU (x.1) (x.2.1) (x.2.2),none⟩] tb k Tryz.f41 zay [.d kLP,.d kI,.d kI,.d kI] [.pair kI kPP,.bool] (a0,a1,a2,a3)=Yi k zU a0 a1 a2 a3:=by kernel_rfl
def Zm (k:Nat) (a0:LPt) (a1:Int) (a2:Int) (a3:Int):Option ((Int×PPt)×Bool):=Yi k (qy k) a0 a1 a2 a3
theorem zdw (k:Nat):zx Tryz.prog 41 [.d kLP,.d kI,.d kI,.d kI] [.pair kI kPP,.bool] (fun x=>Zm k (x.1) (x.2.1) (x.2.2.1) (x.2.2.2)):=fun x y h=>zk zR mix (zp.cons (ze.of rfl (Qk k)) (zp.nil _)) Tryz.func41 (N:=k) (an:=zay) (by kernel_rfl) x y ((zgf k (qy k) (x.1) (x.2.1) (x.2.2.1) (x.2.2.2)).trans h)
end
end Go.Proofs.YtpkkcjmblocjdaaGreat.AM
