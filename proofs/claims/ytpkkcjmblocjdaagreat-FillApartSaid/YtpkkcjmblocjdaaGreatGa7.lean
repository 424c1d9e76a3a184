/- The functions, by their texts: written by a program. -/
import Derived.Test.YtpkkcjmblocjdaaGreatGa6
import Derived.Test.YtpkkcjmblocjdaaGreatCln
set_option linter.unusedVariables false
set_option linter.unusedSimpArgs false
set_option linter.unusedSectionVars false
set_option maxRecDepth 100000
namespace Go.Proofs.YtpkkcjmblocjdaaGreat.AM
open Go.RowKit Go.Proofs
noncomputable section
def YB : Ann := uLf
def qQ (k : Nat) (a0 : PPt) (a1 : Int) : Option PPt :=
 some (w64 (a1 * a0.1), w64 (a1 * a0.2))
theorem zdA (k : Nat) (a0 : PPt) (a1 : Int) : zM [] tb k Tryz.f105 YB [.d kPP, .d kI] [.pair kI kI] (a0, a1) = qQ k a0 a1 := by kernel_rfl
theorem Kh (k : Nat) : zv Tryz.prog 105 [.d kPP, .d kI] [.pair kI kI] (fun x => qQ k (x.1) (x.2)) := fun x y h => zh zN mix (zo.nil _) Tryz.func105 (N := k) (an := YB) (by kernel_rfl) x y ((zdA k (x.1) (x.2)).trans h)
def YD : Ann := uNn uLf (uNn (uNn uLf (uNn (.node none (some [(0, .d kLP), (1, .d kLP), (2, .d kI), (7, .d kI)]) (uNn uLf (uNn (uNn (uNn uLf (uNn (uNn (.node (some [(0, .d kLP), (1, .d kLP), (2, .d kI), (7, .d kI), (8, .box [.d kPP]), (53, .d .bool)]) none uLf uLf) uLf) (uNn (.node (some [(0, .d kLP), (1, .d kLP), (2, .d kI), (7, .d kI), (91, .d .bool)]) none uLf uLf) uLf))) uLf) uLf)) uLf) uLf)) uLf)
def JP (k : Nat) (zp : PPt → Option Bool) (ql : PPt → Int → Option PPt) (a0 : LPt) (a1 : LPt) (a2 : Int) : Option Bool :=
 zx (α := (LPt × (LPt × PPt))) (fun (x1, x2, x3, x4) next0 =>
 bif decide (x4 < (x2.length : Int)) then
 gd (inb x4 x2.length) <|
 zy (α := (LPt × (LPt × (Int × (Int × (PPt × Bool)))))) (fun (y5, y6, y7, y8, y9, y10) =>
 bif y10 then
 some false
 else
 zy (α := (LPt × (LPt × (Int × (Int × Bool))))) (fun (y11, y12, y13, y14, y15) =>
 bif y15 then
 some false
 else
 next0 (y11, y12, y13, w64 (y14 + 1))) fun j16 =>
 gd (inb y9.1 y5.length) <|
 bnd (zp ((rdD (0, 0) y5 y9.1).1, (rdD (0, 0) y5 y9.1).2)) fun r17 =>
 bif !r17 then
 j16 (y5, y6, y7, y8, true)
 else
 gd (inb y9.2 y5.length) <|
 bnd (zp ((rdD (0, 0) y5 y9.2).1, (rdD (0, 0) y5 y9.2).2)) fun r18 =>
 bif !r18 then
 j16 (y5, y6, y7, y8, true)
 else
 gd (inb y9.1 y5.length) <|
 bnd (ql ((rdD (0, 0) y5 y9.1).1, (rdD (0, 0) y5 y9.1).2) y7) fun r19 =>
 bnd (zp (r19.1, r19.2)) fun r20 =>
 bif !r20 then
 j16 (y5, y6, y7, y8, true)
 else
 gd (inb y9.2 y5.length) <|
 bnd (ql ((rdD (0, 0) y5 y9.2).1, (rdD (0, 0) y5 y9.2).2) y7) fun r21 =>
 bnd (zp (r21.1, r21.2)) fun r22 =>
 j16 (y5, y6, y7, y8, !r22)) fun j23 =>
 bif decide ((rdD (0, 0) x2 x4).1 < 0) then
 j23 (x1, x2, x3, x4, ((rdD (0, 0) x2 x4).1, (rdD (0, 0) x2 x4).2), true)
 else
 bif decide ((rdD (0, 0) x2 x4).2 < 0) then
 j23 (x1, x2, x3, x4, ((rdD (0, 0) x2 x4).1, (rdD (0, 0) x2 x4).2), true)
 else
 bif decide ((rdD (0, 0) x2 x4).1 ≥ (x1.length : Int)) then
 j23 (x1, x2, x3, x4, ((rdD (0, 0) x2 x4).1, (rdD (0, 0) x2 x4).2), true)
 else
 bif decide ((rdD (0, 0) x2 x4).2 ≥ (x1.length : Int)) then
 j23 (x1, x2, x3, x4, ((rdD (0, 0) x2 x4).1, (rdD (0, 0) x2 x4).2), true)
 else
 gd (inb (rdD (0, 0) x2 x4).1 x1.length) <|
 gd (inb (rdD (0, 0) x2 x4).2 x1.length) <|
 j23 (x1, x2, x3, x4, ((rdD (0, 0) x2 x4).1, (rdD (0, 0) x2 x4).2), (decide ((rdD (0, 0) x1 (rdD (0, 0) x2 x4).1).1 = (rdD (0, 0) x1 (rdD (0, 0) x2 x4).2).1)) && (decide ((rdD (0, 0) x1 (rdD (0, 0) x2 x4).1).2 = (rdD (0, 0) x1 (rdD (0, 0) x2 x4).2).2)))
 else
 some true) k (a0, a1, a2, 0)
theorem zdp (k : Nat) (zp : PPt → Option Bool) (ql : PPt → Int → Option PPt) (a0 : LPt) (a1 : LPt) (a2 : Int) : zM [⟨72, [.d kPP], [.bool], fun x => zp x, none⟩, ⟨105, [.d kPP, .d kI], [.pair kI kI], fun x => ql (x.1) (x.2), none⟩] tb k Tryz.f79 YD [.d kLP, .d kLP, .d kI] [.bool] (a0, a1, a2) = JP k zp ql a0 a1 a2 := by kernel_rfl
def Zl (k : Nat) (a0 : LPt) (a1 : LPt) (a2 : Int) : Option Bool := JP k (zX k) (qQ k) a0 a1 a2
theorem zbP (k : Nat) : zv Tryz.prog 79 [.d kLP, .d kLP, .d kI] [.bool] (fun x => Zl k (x.1) (x.2.1) (x.2.2)) := fun x y h => zh zN mix (zo.cons (ze.of rfl (jA k)) (zo.cons (ze.of rfl (Kh k)) (zo.nil _))) Tryz.func79 (N := k) (an := YD) (by kernel_rfl) x y ((zdp k (zX k) (qQ k) (x.1) (x.2.1) (x.2.2)).trans h)
def zaH : Ann := uLf
def Yn (k : Nat) (zV : PPt → PPt → PPt → Option Bool) (a0 : PPt) (a1 : PPt) (a2 : PPt) : Option Bool :=
 bnd (zV (a0.1, a0.2) (a1.1, a1.2) (a2.1, a2.2)) fun r0 =>
 some r0
theorem zfP (k : Nat) (zV : PPt → PPt → PPt → Option Bool) (a0 : PPt) (a1 : PPt) (a2 : PPt) : zM [⟨74, [.d kPP, .d kPP, .d kPP], [.bool], fun x => zV (x.1) (x.2.1) (x.2.2), none⟩] tb k Tryz.f106 zaH [.d kPP, .d kPP, .d kPP] [.bool] (a0, a1, a2) = Yn k zV a0 a1 a2 := by kernel_rfl
def Qe (k : Nat) (a0 : PPt) (a1 : PPt) (a2 : PPt) : Option Bool := Yn k (q8 k) a0 a1 a2
theorem zdB (k : Nat) : zv Tryz.prog 106 [.d kPP, .d kPP, .d kPP] [.bool] (fun x => Qe k (x.1) (x.2.1) (x.2.2)) := fun x y h => zh zN mix (zo.cons (ze.of rfl (Je k)) (zo.nil _)) Tryz.func106 (N := k) (an := zaH) (by kernel_rfl) x y ((zfP k (q8 k) (x.1) (x.2.1) (x.2.2)).trans h)
def K1 : Ann := uLf
def QZ (k : Nat) (zG : Int → Option (Bool × (List Int))) (zF : (Bool × (List Int)) → (Bool × (List Int)) → Option (Bool × (List Int))) (zz : (Bool × (List Int)) → (Bool × (List Int)) → Option (Bool × (List Int))) (qq : (Bool × (List Int)) → Option (Bool × (List Int))) (zR : (Bool × (List Int)) → Option Int) (a0 : PPt) (a1 : PPt) (a2 : PPt) : Option Bool :=
 bnd (zG (w64 (a1.2 - a0.2))) fun r0 =>
 bnd (zG a0.1) fun r1 =>
 bnd (zF (r1.1, r1.2) (r0.1, r0.2)) fun r2 =>
 bnd (zG (w64 (a1.1 - a0.1))) fun r3 =>
 bnd (zG (w64 (a2.2 - a0.2))) fun r4 =>
 bnd (zF (r3.1, r3.2) (r4.1, r4.2)) fun r5 =>
 bnd (zz (r2.1, r2.2) (r5.1, r5.2)) fun r6 =>
 bnd (zG a2.1) fun r7 =>
 bnd (zF (r7.1, r7.2) (r0.1, r0.2)) fun r8 =>
 bnd (qq (r8.1, r8.2)) fun r9 =>
 bnd (zz (r6.1, r6.2) (r9.1, r9.2)) fun r10 =>
 bnd (zR (r10.1, r10.2)) fun r11 =>
 bnd (zR (r0.1, r0.2)) fun r12 =>
 some (decide ((w64 (r11 * r12)) > 0))
theorem zb0 (k : Nat) (zG : Int → Option (Bool × (List Int))) (zF : (Bool × (List Int)) → (Bool × (List Int)) → Option (Bool × (List Int))) (zz : (Bool × (List Int)) → (Bool × (List Int)) → Option (Bool × (List Int))) (qq : (Bool × (List Int)) → Option (Bool × (List Int))) (zR : (Bool × (List Int)) → Option Int) (a0 : PPt) (a1 : PPt) (a2 : PPt) : zM [⟨102, [.d kI], [.pair .bool (.sl kI)], fun x => zG x, none⟩, ⟨103, [.d (.pair .bool (.sl kI)), .d (.pair .bool (.sl kI))], [.pair .bool (.sl kI)], fun x => zF (x.1) (x.2), none⟩, ⟨64, [.d (.pair .bool (.sl kI)), .d (.pair .bool (.sl kI))], [.pair .bool (.sl kI)], fun x => zz (x.1) (x.2), none⟩, ⟨66, [.d (.pair .bool (.sl kI))], [.pair .bool (.sl kI)], fun x => qq x, none⟩, ⟨67, [.d (.pair .bool (.sl kI))], [kI], fun x => zR x, none⟩] tb k Tryz.f107 K1 [.d kPP, .d kPP, .d kPP] [.bool] (a0, a1, a2) = QZ k zG zF zz qq zR a0 a1 a2 := by kernel_rfl
def jM (k : Nat) (a0 : PPt) (a1 : PPt) (a2 : PPt) : Option Bool := QZ k (zI k) (zJ k) (zD k) (qj k) (zW k) a0 a1 a2
theorem zaI (k : Nat) : zv Tryz.prog 107 [.d kPP, .d kPP, .d kPP] [.bool] (fun x => jM k (x.1) (x.2.1) (x.2.2)) := fun x y h => zh zN mix (zo.cons (ze.of rfl (QA k)) (zo.cons (ze.of rfl (Zx k)) (zo.cons (ze.of rfl (jI k)) (zo.cons (ze.of rfl (Jx k)) (zo.cons (ze.of rfl (ZG k)) (zo.nil _)))))) Tryz.func107 (N := k) (an := K1) (by kernel_rfl) x y ((zb0 k (zI k) (zJ k) (zD k) (qj k) (zW k) (x.1) (x.2.1) (x.2.2)).trans h)
def YL : Ann := uNn uLf (uNn uLf (uNn (uNn uLf (uNn (.node none (some [(0, .d kLP), (1, .d kLP), (2, .d kI), (7, .box [.d kPP]), (9, .d kI), (10, .d kI)]) (uNn uLf (uNn (uNn (uNn uLf (uNn uLf (uNn uLf (uNn (.node (some [(0, .d kLP), (1, .d kLP), (2, .d kI), (7, .box [.d kPP]), (9, .d kI), (10, .d kI), (59, .d .bool)]) none uLf uLf) (.node (some [(0, .d kLP), (1, .d kLP), (2, .d kI), (7, .box [.d kPP]), (9, .d kI), (10, .d kI)]) none uLf uLf))))) uLf) uLf)) uLf) uLf)) uLf))
def JO (k : Nat) (ql : PPt → Int → Option PPt) (Jq : PPt → PPt → PPt → Option Bool) (ZC : PPt → PPt → PPt → Option Bool) (a0 : LPt) (a1 : LPt) (a2 : Int) (a3 : PPt) : Option Int :=
 zx (α := (LPt × (LPt × (Int × (PPt × PPt))))) (fun (x1, x2, x3, x4, x5, x6) next0 =>
 bif decide (x6 < (x2.length : Int)) then
 gd (inb x6 x2.length) <|
 gd (inb (rdD (0, 0) x2 x6).1 x1.length) <|
 bnd (ql ((rdD (0, 0) x1 (rdD (0, 0) x2 x6).1).1, (rdD (0, 0) x1 (rdD (0, 0) x2 x6).1).2) x3) fun r7 =>
 gd (inb x6 x2.length) <|
 gd (inb (rdD (0, 0) x2 x6).2 x1.length) <|
 bnd (ql ((rdD (0, 0) x1 (rdD (0, 0) x2 x6).2).1, (rdD (0, 0) x1 (rdD (0, 0) x2 x6).2).2) x3) fun r8 =>
 bnd (Jq (r7.1, r7.2) (r8.1, r8.2) (x4.1, x4.2)) fun r9 =>
 bif r9 then
 some 0
 else
 zy (α := (LPt × (LPt × (Int × (PPt × (Int × (Int × Bool))))))) (fun (y10, y11, y12, y13, y14, y15, y16) =>
 zy (α := (LPt × (LPt × (Int × (PPt × PPt))))) (fun (y17, y18, y19, y20, y21, y22) =>
 next0 (y17, y18, y19, (y20.1, y20.2), y21, w64 (y22 + 1))) fun j23 =>
 bif y16 then
 j23 (y10, y11, y12, (y13.1, y13.2), w64 (y14 + 1), y15)
 else
 j23 (y10, y11, y12, (y13.1, y13.2), y14, y15)) fun j24 =>
 bif !((decide (r7.2 > x4.2)) == (decide (r8.2 > x4.2))) then
 bnd (ZC (r7.1, r7.2) (r8.1, r8.2) (x4.1, x4.2)) fun r25 =>
 j24 (x1, x2, x3, (x4.1, x4.2), x5, x6, r25)
 else
 j24 (x1, x2, x3, (x4.1, x4.2), x5, x6, false)
 else
 bif decide ((x5.tmod 2) = 1) then
 some 1
 else
 some (-1)) k (a0, a1, a2, (a3.1, a3.2), 0, 0)
theorem zdo (k : Nat) (ql : PPt → Int → Option PPt) (Jq : PPt → PPt → PPt → Option Bool) (ZC : PPt → PPt → PPt → Option Bool) (a0 : LPt) (a1 : LPt) (a2 : Int) (a3 : PPt) : zM [⟨105, [.d kPP, .d kI], [.pair kI kI], fun x => ql (x.1) (x.2), none⟩, ⟨106, [.d kPP, .d kPP, .d kPP], [.bool], fun x => Jq (x.1) (x.2.1) (x.2.2), none⟩, ⟨107, [.d kPP, .d kPP, .d kPP], [.bool], fun x => ZC (x.1) (x.2.1) (x.2.2), none⟩] tb k Tryz.f80 YL [.d kLP, .d kLP, .d kI, .d kPP] [kI] (a0, a1, a2, a3) = JO k ql Jq ZC a0 a1 a2 a3 := by kernel_rfl
def qS (k : Nat) (a0 : LPt) (a1 : LPt) (a2 : Int) (a3 : PPt) : Option Int := JO k (qQ k) (Qe k) (jM k) a0 a1 a2 a3
theorem Kt (k : Nat) : zv Tryz.prog 80 [.d kLP, .d kLP, .d kI, .d kPP] [kI] (fun x => qS k (x.1) (x.2.1) (x.2.2.1) (x.2.2.2)) := fun x y h => zh zN mix (zo.cons (ze.of rfl (Kh k)) (zo.cons (ze.of rfl (zdB k)) (zo.cons (ze.of rfl (zaI k)) (zo.nil _)))) Tryz.func80 (N := k) (an := YL) (by kernel_rfl) x y ((zdo k (qQ k) (Qe k) (jM k) (x.1) (x.2.1) (x.2.2.1) (x.2.2.2)).trans h)
def K8 : Ann := uNn uLf (uNn uLf (uNn (uNn uLf (uNn (.node none (some [(0, .d kLP), (1, .d kLP), (2, .d (.sl kI)), (8, .box [.d kPP]), (9, .d kI)]) (uNn uLf (uNn (uNn (uNn (uNn (.node (some [(0, .d kLP), (1, .d kLP), (2, .d (.sl kI)), (8, .box [.d kPP]), (9, .d kI), (41, .d .bool)]) none uLf uLf) uLf) uLf) uLf) uLf)) uLf) uLf)) (uNn (uNn (.node (some [(0, .d kLP), (1, .d kLP), (2, .d (.sl kI)), (8, .box [.d kPP]), (76, .d .bool)]) none uLf uLf) uLf) uLf)))
def Jh (k : Nat) (zp : PPt → Option Bool) (Qk : LPt → LPt → Int → Option Bool) (qD : LPt → LPt → Int → PPt → Option Int) (a0 : LPt) (a1 : LPt) (a2 : (List Int)) : Option PPt :=
 zx (α := (LPt × (LPt × ((List Int) × (PPt × Int))))) (fun (x1, x2, x3, x4, x5) next0 =>
 bif decide (x5 < (x3.length : Int)) then
 zy (α := (LPt × (LPt × ((List Int) × (PPt × (Int × Bool)))))) (fun (y6, y7, y8, y9, y10, y11) =>
 bif y11 then
 some (0, 2)
 else
 gd (inb y10 y8.length) <|
 gd (inb (rdD 0 y8 y10) y6.length) <|
 gd (inb y10 y8.length) <|
 gd (inb (rdD 0 y8 y10) y6.length) <|
 next0 (y6, y7, y8, (w64 (y9.1 + (rdD (0, 0) y6 (rdD 0 y8 y10)).1), w64 (y9.2 + (rdD (0, 0) y6 (rdD 0 y8 y10)).2)), w64 (y10 + 1))) fun j12 =>
 gd (inb x5 x3.length) <|
 bif decide ((rdD 0 x3 x5) < 0) then
 j12 (x1, x2, x3, (x4.1, x4.2), x5, true)
 else
 gd (inb x5 x3.length) <|
 bif decide ((rdD 0 x3 x5) ≥ (x1.length : Int)) then
 j12 (x1, x2, x3, (x4.1, x4.2), x5, true)
 else
 gd (inb x5 x3.length) <|
 gd (inb (rdD 0 x3 x5) x1.length) <|
 bnd (zp ((rdD (0, 0) x1 (rdD 0 x3 x5)).1, (rdD (0, 0) x1 (rdD 0 x3 x5)).2)) fun r13 =>
 j12 (x1, x2, x3, (x4.1, x4.2), x5, !r13)
 else
 zy (α := (LPt × (LPt × ((List Int) × (PPt × Bool))))) (fun (y14, y15, y16, y17, y18) =>
 bif y18 then
 some (0, 2)
 else
 bnd (qD y14 y15 (y16.length : Int) (y17.1, y17.2)) fun r19 =>
 some (r19, 0)) fun j20 =>
 bnd (Qk x1 x2 (x3.length : Int)) fun r21 =>
 bif !r21 then
 j20 (x1, x2, x3, (x4.1, x4.2), true)
 else
 bnd (zp (x4.1, x4.2)) fun r22 =>
 j20 (x1, x2, x3, (x4.1, x4.2), !r22)) k (a0, a1, a2, (0, 0), 0)
theorem zcP (k : Nat) (zp : PPt → Option Bool) (Qk : LPt → LPt → Int → Option Bool) (qD : LPt → LPt → Int → PPt → Option Int) (a0 : LPt) (a1 : LPt) (a2 : (List Int)) : zM [⟨72, [.d kPP], [.bool], fun x => zp x, none⟩, ⟨79, [.d kLP, .d kLP, .d kI], [.bool], fun x => Qk (x.1) (x.2.1) (x.2.2), none⟩, ⟨80, [.d kLP, .d kLP, .d kI, .d kPP], [kI], fun x => qD (x.1) (x.2.1) (x.2.2.1) (x.2.2.2), none⟩] tb k Tryz.f37 K8 [.d kLP, .d kLP, .d (.sl kI)] [kI, kI] (a0, a1, a2) = Jh k zp Qk qD a0 a1 a2 := by kernel_rfl
def jp (k : Nat) (a0 : LPt) (a1 : LPt) (a2 : (List Int)) : Option PPt := Jh k (zX k) (Zl k) (qS k) a0 a1 a2
theorem za1 (k : Nat) : zv Tryz.prog 37 [.d kLP, .d kLP, .d (.sl kI)] [kI, kI] (fun x => jp k (x.1) (x.2.1) (x.2.2)) := fun x y h => zh zN mix (zo.cons (ze.of rfl (jA k)) (zo.cons (ze.of rfl (zbP k)) (zo.cons (ze.of rfl (Kt k)) (zo.nil _)))) Tryz.func37 (N := k) (an := K8) (by kernel_rfl) x y ((zcP k (zX k) (Zl k) (qS k) (x.1) (x.2.1) (x.2.2)).trans h)
def YJ : Ann := uNn uLf (uNn (uNn uLf (uNn (.node none (some [(1, .box [.d kPl]), (2, .box [.d (.pair kI kPP)]), (3, .d kI)]) (uNn uLf (uNn (uNn (uNn uLf (uNn (uNn uLf (uNn (.node none (some [(1, .box [.d kPl]), (2, .box [.d (.pair kI kPP)]), (3, .d kI), (4, .d kI), (5, .d kI)]) (uNn uLf (uNn (uNn (uNn (.node (some [(1, .box [.d kPl]), (2, .box [.d (.pair kI kPP)]), (3, .d kI), (4, .d kI), (5, .d kI), (44, .d .bool)]) none uLf uLf) (.node (some [(1, .box [.d kPl]), (2, .box [.d (.pair kI kPP)]), (3, .d kI), (4, .d kI), (5, .d kI)]) none uLf uLf)) uLf) uLf)) uLf) uLf)) (uNn (.node (some [(1, .box [.d kPl]), (2, .box [.d (.pair kI kPP)]), (3, .d kI), (52, .d .bool)]) none uLf uLf) uLf))) uLf) uLf)) uLf) uLf)) (uNn uLf (uNn (uNn uLf (uNn (.node none (some [(1, .box [.d kPl]), (2, .box [.d (.pair kI kPP)]), (6, .d kI)]) uLf uLf) uLf)) (uNn uLf (uNn (uNn uLf (uNn (.node none (some [(1, .box [.d kPl]), (2, .box [.d (.pair kI kPP)]), (9, .d kLP), (10, .d kI)]) (uNn uLf (uNn (uNn (uNn uLf (uNn (uNn uLf (uNn (.node none (some [(1, .box [.d kPl]), (2, .box [.d (.pair kI kPP)]), (9, .d kLP), (10, .d kI), (11, .d .bool), (12, .d kI)]) (uNn uLf (uNn (uNn (.node (some [(1, .box [.d kPl]), (2, .box [.d (.pair kI kPP)]), (9, .d kLP), (10, .d kI), (11, .d .bool), (12, .d kI)]) none uLf uLf) uLf) uLf)) uLf) uLf)) (uNn (.node (some [(1, .box [.d kPl]), (2, .box [.d (.pair kI kPP)]), (9, .d kLP), (10, .d kI), (140, .d .bool)]) none uLf uLf) uLf))) uLf) uLf)) uLf) uLf)) uLf)))))
def JC (k : Nat) (Z0 : LPt → LPt → (List Int) → Option PPt) (qV : TPl → Option LPt) (qD : LPt → LPt → Int → PPt → Option Int) (a0 : TPl) : Option (Int × PPt) :=
 zx (α := (TPl × ((Int × PPt) × Int))) (fun (x1, x2, x3) next0 =>
 bif decide (x3 < (x1.1.length : Int)) then
 zx (α := (TPl × ((Int × PPt) × (Int × PPt)))) (fun (x5, x6, x7, x8, x9) next4 =>
 bif decide (x9 < (x5.2.1.length : Int)) then
 zy (α := (TPl × ((Int × PPt) × (Int × (Int × (Int × Bool)))))) (fun (y10, y11, y12, y13, y14, y15) =>
 zy (α := (TPl × ((Int × PPt) × (Int × PPt)))) (fun (y16, y17, y18, y19, y20) =>
 next4 ((y16.1, y16.2.1, y16.2.2), (y17.1, y17.2.1, y17.2.2), y18, y19, w64 (y20 + 1))) fun j21 =>
 bif y15 then
 j21 ((y10.1, y10.2.1, y10.2.2), (y11.1, y11.2.1, y11.2.2), y12, w64 (y13 + 1), y14)
 else
 j21 ((y10.1, y10.2.1, y10.2.2), (y11.1, y11.2.1, y11.2.2), y12, y13, y14)) fun j22 =>
 gd (inb x9 x5.2.1.length) <|
 bif decide ((rdD (0, 0) x5.2.1 x9).1 = x7) then
 j22 ((x5.1, x5.2.1, x5.2.2), (x6.1, x6.2.1, x6.2.2), x7, x8, x9, true)
 else
 gd (inb x9 x5.2.1.length) <|
 j22 ((x5.1, x5.2.1, x5.2.2), (x6.1, x6.2.1, x6.2.2), x7, x8, x9, decide ((rdD (0, 0) x5.2.1 x9).2 = x7))
 else
 zy (α := (TPl × ((Int × PPt) × (Int × Bool)))) (fun (y23, y24, y25, y26) =>
 bif y26 then
 some (5, y25, 0)
 else
 next0 ((y23.1, y23.2.1, y23.2.2), (y24.1, y24.2.1, y24.2.2), w64 (y25 + 1))) fun j27 =>
 bif !(decide (x8 = 0)) then
 j27 ((x5.1, x5.2.1, x5.2.2), (x6.1, x6.2.1, x6.2.2), x7, !(decide (x8 = 2)))
 else
 j27 ((x5.1, x5.2.1, x5.2.2), (x6.1, x6.2.1, x6.2.2), x7, false)) k ((x1.1, x1.2.1, x1.2.2), (x2.1, x2.2.1, x2.2.2), x3, 0, 0)
 else
 bif decide ((x1.2.1.length : Int) = 0) then
 some (6, 0, 0)
 else
 zx (α := (TPl × ((Int × PPt) × Int))) (fun (x29, x30, x31) next28 =>
 bif decide (x31 < (x29.2.2.length : Int)) then
 gd (inb x31 x29.2.2.length) <|
 gd (inb x31 x29.2.2.length) <|
 bnd (Z0 x29.1 x29.2.1 [(rdD (0, 0) x29.2.2 x31).1, (rdD (0, 0) x29.2.2 x31).2]) fun r32 =>
 bif !(decide (r32.1 = 1)) then
 some (7, x31, 0)
 else
 next28 ((x29.1, x29.2.1, x29.2.2), (x30.1, x30.2.1, x30.2.2), w64 (x31 + 1))
 else
 bnd (qV (x29.1, x29.2.1, x29.2.2)) fun r33 =>
 zx (α := (TPl × ((Int × PPt) × (LPt × Int)))) (fun (x35, x36, x37, x38) next34 =>
 bif decide (x38 < (x35.1.length : Int)) then
 zx (α := (TPl × ((Int × PPt) × (LPt × (Int × (Bool × Int)))))) (fun (x40, x41, x42, x43, x44, x45) next39 =>
 bif decide (x45 < (x42.length : Int)) then
 zy (α := (TPl × ((Int × PPt) × (LPt × (Int × (Bool × Int)))))) (fun (y46, y47, y48, y49, y50, y51) =>
 next39 ((y46.1, y46.2.1, y46.2.2), (y47.1, y47.2.1, y47.2.2), y48, y49, y50, w64 (y51 + 1))) fun j52 =>
 bif x44 then
 j52 ((x40.1, x40.2.1, x40.2.2), (x41.1, x41.2.1, x41.2.2), x42, x43, true, x45)
 else
 gd (inb x45 x42.length) <|
 bif decide ((rdD (0, 0) x42 x45).1 = x43) then
 j52 ((x40.1, x40.2.1, x40.2.2), (x41.1, x41.2.1, x41.2.2), x42, x43, true, x45)
 else
 gd (inb x45 x42.length) <|
 j52 ((x40.1, x40.2.1, x40.2.2), (x41.1, x41.2.1, x41.2.2), x42, x43, decide ((rdD (0, 0) x42 x45).2 = x43), x45)
 else
 zy (α := (TPl × ((Int × PPt) × (LPt × (Int × Bool))))) (fun (y53, y54, y55, y56, y57) =>
 bif y57 then
 some (8, y56, 0)
 else
 next34 ((y53.1, y53.2.1, y53.2.2), (y54.1, y54.2.1, y54.2.2), y55, w64 (y56 + 1))) fun j58 =>
 bif !x44 then
 gd (inb x43 x40.1.length) <|
 bnd (qD x40.1 x40.2.1 1 ((rdD (0, 0) x40.1 x43).1, (rdD (0, 0) x40.1 x43).2)) fun r59 =>
 j58 ((x40.1, x40.2.1, x40.2.2), (x41.1, x41.2.1, x41.2.2), x42, x43, !(decide (r59 = 1)))
 else
 j58 ((x40.1, x40.2.1, x40.2.2), (x41.1, x41.2.1, x41.2.2), x42, x43, false)) k ((x35.1, x35.2.1, x35.2.2), (x36.1, x36.2.1, x36.2.2), x37, x38, false, 0)
 else
 some (0, 0, 0)) k ((x29.1, x29.2.1, x29.2.2), (x30.1, x30.2.1, x30.2.2), r33, 0)) k ((x1.1, x1.2.1, x1.2.2), (x2.1, x2.2.1, x2.2.2), 0)) k ((a0.1, a0.2.1, a0.2.2), (0, 0, 0), 0)
theorem zdr (k : Nat) (Z0 : LPt → LPt → (List Int) → Option PPt) (qV : TPl → Option LPt) (qD : LPt → LPt → Int → PPt → Option Int) (a0 : TPl) : zM [⟨37, [.d kLP, .d kLP, .d (.sl kI)], [kI, kI], fun x => Z0 (x.1) (x.2.1) (x.2.2), none⟩, ⟨27, [.d kPl], [.sl kPP], fun x => qV x, none⟩, ⟨80, [.d kLP, .d kLP, .d kI, .d kPP], [kI], fun x => qD (x.1) (x.2.1) (x.2.2.1) (x.2.2.2), none⟩] tb k Tryz.f96 YJ [.d kPl] [.pair kI kPP] a0 = JC k Z0 qV qD a0 := by kernel_rfl
def jB (k : Nat) (a0 : TPl) : Option (Int × PPt) := JC k (jp k) (qG k) (qS k) a0
theorem zbD (k : Nat) : zv Tryz.prog 96 [.d kPl] [.pair kI kPP] (fun x => jB k x) := fun x y h => zh zN mix (zo.cons (ze.of rfl (za1 k)) (zo.cons (ze.of rfl (Yq k)) (zo.cons (ze.of rfl (Kt k)) (zo.nil _)))) Tryz.func96 (N := k) (an := YJ) (by kernel_rfl) x y ((zdr k (jp k) (qG k) (qS k) x).trans h)
def YC : Ann := uNn uLf (uNn uLf (uNn uLf (uNn uLf (uNn (uNn uLf (.node (some [(2, .box [.d (.pair kI kPP)]), (5, .box [.d (.pair kI kPP)])]) none uLf uLf)) uLf))))
def Qd (k : Nat) (Qr : TPl → Option Int) (Qq : TPl → Option (Int × PPt)) (Qa : TPl → Option (Int × PPt)) (a0 : TPl) : Option ((Int × PPt) × Int) :=
 bnd (Qr (a0.1, a0.2.1, a0.2.2)) fun r0 =>
 bif !(decide (r0 = 0)) then
 some ((0, 0, 0), 2)
 else
 bnd (Qq (a0.1, a0.2.1, a0.2.2)) fun r1 =>
 zy (α := ((Int × PPt) × (Int × PPt))) (fun (y2, y3, y4, y5) =>
 some ((y3, y4, y5), 0)) fun j6 =>
 bif decide (r1.1 = 0) then
 bnd (Qa (a0.1, a0.2.1, a0.2.2)) fun r7 =>
 j6 ((0, 0, 0), r7.1, r7.2.1, r7.2.2)
 else
 j6 ((0, 0, 0), r1.1, r1.2.1, r1.2.2)
theorem zdJ (k : Nat) (Qr : TPl → Option Int) (Qq : TPl → Option (Int × PPt)) (Qa : TPl → Option (Int × PPt)) (a0 : TPl) : zM [⟨94, [.d kPl], [kI], fun x => Qr x, none⟩, ⟨95, [.d kPl], [.pair kI kPP], fun x => Qq x, none⟩, ⟨96, [.d kPl], [.pair kI kPP], fun x => Qa x, none⟩] tb k Tryz.f59 YC [.d kPl] [.pair kI kPP, kI] a0 = Qd k Qr Qq Qa a0 := by kernel_rfl
def qB (k : Nat) (a0 : TPl) : Option ((Int × PPt) × Int) := Qd k (qR k) (jF k) (jB k) a0
theorem zbL (k : Nat) : zv Tryz.prog 59 [.d kPl] [.pair kI kPP, kI] (fun x => qB k x) := fun x y h => zh zN mix (zo.cons (ze.of rfl (zbl k)) (zo.cons (ze.of rfl (zbs k)) (zo.cons (ze.of rfl (zbD k)) (zo.nil _)))) Tryz.func59 (N := k) (an := YC) (by kernel_rfl) x y ((zdJ k (qR k) (jF k) (jB k) x).trans h)
def YS : Ann := uNn uLf (uNn uLf (uNn (.node (some [(2, .d .bool)]) none uLf uLf) uLf))
def Qp (k : Nat) (Qt : TPl → Option ((Int × PPt) × Int)) (a0 : TPl) : Option Bool :=
 bnd (Qt (a0.1, a0.2.1, a0.2.2)) fun r0 =>
 zy (α := Bool) (fun y1 =>
 some y1) fun j2 =>
 bif decide (r0.2 = 0) then
 j2 (decide (r0.1.1 = 0))
 else
 j2 false
theorem zdt (k : Nat) (Qt : TPl → Option ((Int × PPt) × Int)) (a0 : TPl) : zM [⟨59, [.d kPl], [.pair kI kPP, kI], fun x => Qt x, none⟩] tb k Tryz.f20 YS [.d kPl] [.bool] a0 = Qp k Qt a0 := by kernel_rfl
def qz (k : Nat) (a0 : TPl) : Option Bool := Qp k (qB k) a0
theorem zbC (k : Nat) : zv Tryz.prog 20 [.d kPl] [.bool] (fun x => qz k x) := fun x y h => zh zN mix (zo.cons (ze.of rfl (zbL k)) (zo.nil _)) Tryz.func20 (N := k) (an := YS) (by kernel_rfl) x y ((zdt k (qB k) x).trans h)
def zax : Ann := uNn uLf (uNn (.node (some [(6, .d .bool)]) none uLf uLf) uLf)
def Yr (k : Nat) (zw : PPt → PPt → PPt → Option Int) (a0 : LPt) (a1 : (Int × PPt)) (a2 : PPt) : Option Bool :=
 zy (α := Bool) (fun y0 =>
 some y0) fun j1 =>
 gd (inb a1.1 a0.length) <|
 gd (inb a1.2.1 a0.length) <|
 bnd (zw ((rdD (0, 0) a0 a1.1).1, (rdD (0, 0) a0 a1.1).2) ((rdD (0, 0) a0 a1.2.1).1, (rdD (0, 0) a0 a1.2.1).2) (a2.1, a2.2)) fun r2 =>
 bif !(decide (r2 = (-1))) then
 gd (inb a1.2.1 a0.length) <|
 gd (inb a1.2.2 a0.length) <|
 bnd (zw ((rdD (0, 0) a0 a1.2.1).1, (rdD (0, 0) a0 a1.2.1).2) ((rdD (0, 0) a0 a1.2.2).1, (rdD (0, 0) a0 a1.2.2).2) (a2.1, a2.2)) fun r3 =>
 bif !(decide (r3 = (-1))) then
 gd (inb a1.2.2 a0.length) <|
 gd (inb a1.1 a0.length) <|
 bnd (zw ((rdD (0, 0) a0 a1.2.2).1, (rdD (0, 0) a0 a1.2.2).2) ((rdD (0, 0) a0 a1.1).1, (rdD (0, 0) a0 a1.1).2) (a2.1, a2.2)) fun r4 =>
 j1 (!(decide (r4 = (-1))))
 else
 j1 false
 else
 j1 false
theorem zf7 (k : Nat) (zw : PPt → PPt → PPt → Option Int) (a0 : LPt) (a1 : (Int × PPt)) (a2 : PPt) : zM [⟨73, [.d kPP, .d kPP, .d kPP], [kI], fun x => zw (x.1) (x.2.1) (x.2.2), none⟩] tb k Tryz.f33 zax [.d kLP, .d (.pair kI kPP), .d kPP] [.bool] (a0, a1, a2) = Yr k zw a0 a1 a2 := by kernel_rfl
def Zq (k : Nat) (a0 : LPt) (a1 : (Int × PPt)) (a2 : PPt) : Option Bool := Yr k (z8 k) a0 a1 a2
theorem zds (k : Nat) : zv Tryz.prog 33 [.d kLP, .d (.pair kI kPP), .d kPP] [.bool] (fun x => Zq k (x.1) (x.2.1) (x.2.2)) := fun x y h => zh zN mix (zo.cons (ze.of rfl (jZ k)) (zo.nil _)) Tryz.func33 (N := k) (an := zax) (by kernel_rfl) x y ((zf7 k (z8 k) (x.1) (x.2.1) (x.2.2)).trans h)
end
end Go.Proofs.YtpkkcjmblocjdaaGreat.AM
