/- The functions, by their texts: written by a program. -/
import Derived.Test.YtpkkcjmblocjdaaGreatGa4
import Derived.Test.YtpkkcjmblocjdaaGreatCln
set_option linter.unusedVariables false
set_option linter.unusedSimpArgs false
set_option linter.unusedSectionVars false
set_option maxRecDepth 100000
namespace Go.Proofs.YtpkkcjmblocjdaaGreat.AM
open Go.RowKit Go.Proofs
noncomputable section
def Kr : Ann := uNn uLf (uNn uLf (uNn (uNn uLf (uNn (.node none (some [(0, .d kLP), (1, .d kLP), (5, .d kI)]) uLf uLf) uLf)) uLf))
def qo (k : Nat) (a0 : LPt) (a1 : LPt) : Option Bool :=
 bif !(decide ((a0.length : Int) = (a1.length : Int))) then
 some false
 else
 zx (α := (LPt × (LPt × Int))) (fun (x1, x2, x3) next0 =>
 bif decide (x3 < (x1.length : Int)) then
 gd (inb x3 x1.length) <|
 gd (inb x3 x2.length) <|
 bif !((decide ((rdD (0, 0) x1 x3).1 = (rdD (0, 0) x2 x3).1)) && (decide ((rdD (0, 0) x1 x3).2 = (rdD (0, 0) x2 x3).2))) then
 some false
 else
 next0 (x1, x2, w64 (x3 + 1))
 else
 some true) k (a0, a1, 0)
theorem zbr (k : Nat) (a0 : LPt) (a1 : LPt) : zM [] tb k Tryz.f17 Kr [.d kLP, .d kLP] [.bool] (a0, a1) = qo k a0 a1 := by kernel_rfl
theorem Jk (k : Nat) : zv Tryz.prog 17 [.d kLP, .d kLP] [.bool] (fun x => qo k (x.1) (x.2)) := fun x y h => zh zN mix (zo.nil _) Tryz.func17 (N := k) (an := Kr) (by kernel_rfl) x y ((zbr k (x.1) (x.2)).trans h)
def Kx : Ann := uNn uLf (uNn uLf (uNn (uNn uLf (uNn (.node none (some [(0, .d (.sl (.pair kI kPP))), (1, .d (.sl (.pair kI kPP))), (5, .d kI)]) uLf uLf) uLf)) uLf))
def qN (k : Nat) (a0 : LTr) (a1 : LTr) : Option Bool :=
 bif !(decide ((a0.length : Int) = (a1.length : Int))) then
 some false
 else
 zx (α := (LTr × (LTr × Int))) (fun (x1, x2, x3) next0 =>
 bif decide (x3 < (x1.length : Int)) then
 gd (inb x3 x1.length) <|
 gd (inb x3 x2.length) <|
 bif !((decide ((rdD (0, 0, 0) x1 x3).1 = (rdD (0, 0, 0) x2 x3).1)) && ((decide ((rdD (0, 0, 0) x1 x3).2.1 = (rdD (0, 0, 0) x2 x3).2.1)) && (decide ((rdD (0, 0, 0) x1 x3).2.2 = (rdD (0, 0, 0) x2 x3).2.2)))) then
 some false
 else
 next0 (x1, x2, w64 (x3 + 1))
 else
 some true) k (a0, a1, 0)
theorem zbz (k : Nat) (a0 : LTr) (a1 : LTr) : zM [] tb k Tryz.f44 Kx [.d (.sl (.pair kI kPP)), .d (.sl (.pair kI kPP))] [.bool] (a0, a1) = qN k a0 a1 := by kernel_rfl
theorem zan (k : Nat) : zv Tryz.prog 44 [.d (.sl (.pair kI kPP)), .d (.sl (.pair kI kPP))] [.bool] (fun x => qN k (x.1) (x.2)) := fun x y h => zh zN mix (zo.nil _) Tryz.func44 (N := k) (an := Kx) (by kernel_rfl) x y ((zbz k (x.1) (x.2)).trans h)
def zfx : Ann := uLf
def J1 (k : Nat) (a0 : (Int × PPt)) : Option (PPt × (PPt × PPt)) :=
 some ((a0.1, a0.2.1), (a0.2.1, a0.2.2), a0.2.2, a0.1)
theorem zk1 (k : Nat) (a0 : (Int × PPt)) : zM [] tb k Tryz.f60 zfx [.d (.pair kI kPP)] [.pair kPP (.pair kPP kPP)] a0 = J1 k a0 := by kernel_rfl
theorem zhL (k : Nat) : zv Tryz.prog 60 [.d (.pair kI kPP)] [.pair kPP (.pair kPP kPP)] (fun x => J1 k x) := fun x y h => zh zN mix (zo.nil _) Tryz.func60 (N := k) (an := zfx) (by kernel_rfl) x y ((zk1 k x).trans h)
def zfl : Ann := uNn uLf (uNn uLf (uNn (uNn uLf (uNn (.node none (some [(1, .box [.d (.pair kLP (.pair (.sl (.pair kI kPP)) kLP))]), (3, .mp kPP .bool), (16, .d (.sl (.pair kI kPP))), (17, .d kI), (18, .d kI)]) (uNn uLf (uNn uLf (uNn (uNn (uNn uLf (uNn (uNn uLf (uNn (.node (some [(1, .box [.d (.pair kLP (.pair (.sl (.pair kI kPP)) kLP))]), (3, .mp kPP .bool), (5, .box [.d (.pair kI kPP)]), (16, .d (.sl (.pair kI kPP))), (17, .d kI), (18, .d kI), (56, .d .bool)]) none uLf uLf) uLf)) (uNn uLf (uNn (.node none (some [(1, .box [.d (.pair kLP (.pair (.sl (.pair kI kPP)) kLP))]), (3, .mp kPP .bool), (16, .d (.sl (.pair kI kPP))), (17, .d kI), (18, .d kI), (58, .d (.pair kPP (.pair kPP kPP))), (59, .d kI)]) (uNn uLf (uNn uLf (uNn (uNn (uNn (.node (some [(1, .box [.d (.pair kLP (.pair (.sl (.pair kI kPP)) kLP))]), (3, .mp kPP .bool), (9, .box [.d kPP]), (16, .d (.sl (.pair kI kPP))), (17, .d kI), (18, .d kI), (58, .d (.pair kPP (.pair kPP kPP))), (59, .d kI)]) none uLf uLf) uLf) uLf) uLf))) uLf) uLf)))) uLf) uLf))) uLf) uLf)) (uNn uLf (uNn (uNn uLf (uNn (.node none (some [(1, .box [.d (.pair kLP (.pair (.sl (.pair kI kPP)) kLP))]), (3, .mp kPP .bool), (10, .mp kPP .bool), (71, .d kLP), (72, .d kI), (73, .d kI)]) (uNn uLf (uNn uLf (uNn (uNn (uNn uLf (uNn (uNn (.node (some [(1, .box [.d (.pair kLP (.pair (.sl (.pair kI kPP)) kLP))]), (3, .mp kPP .bool), (10, .mp kPP .bool), (12, .box [.d kPP]), (71, .d kLP), (72, .d kI), (73, .d kI), (113, .d .bool)]) none uLf uLf) uLf) uLf)) uLf) uLf))) uLf) uLf)) (uNn (uNn uLf (uNn (.node none (some [(3, .mpf kPP .bool), (10, .mp kPP .bool), (118, .it kPP .bool)]) (uNn uLf (uNn uLf (uNn (uNn uLf (uNn (.node (some [(3, .d (.mp kPP .bool)), (10, .mp kPP .bool), (118, .it kPP .bool), (137, .d .bool)]) none uLf uLf) uLf)) uLf))) uLf) uLf)) uLf)))))
def zct (k : Nat) (QY : LPt → Int → Int → Int → Option ((Int × PPt) × Bool)) (zag : (Int × PPt) → (Int × PPt) → Option Int) (zar : (Int × PPt) → Option (PPt × (PPt × PPt))) (zab : PPt → PPt → Option Int) (Z5 : PPt → Option PPt) (a0 : TMs) : Option Int :=
 zx (α := (TMs × ((List (PPt × Bool)) × (LTr × PPt)))) (fun (x1, x2, x3, x4, x5) next0 =>
 bif decide (x5 < x4) then
 gd (inb x5 x3.length) <|
 bnd (QY x1.1 (rdD (0, 0, 0) x3 x5).1 (rdD (0, 0, 0) x3 x5).2.1 (rdD (0, 0, 0) x3 x5).2.2) fun r6 =>
 zy (α := (TMs × ((List (PPt × Bool)) × ((Int × PPt) × (LTr × (Int × (Int × Bool))))))) (fun (y7, y8, y9, y10, y11, y12, y13) =>
 bif y13 then
 some 2
 else
 bnd (zar (y9.1, y9.2.1, y9.2.2)) fun r14 =>
 zx (α := (TMs × ((List (PPt × Bool)) × (LTr × (Int × (Int × ((PPt × (PPt × PPt)) × Int))))))) (fun (x16, x17, x18, x19, x20, x21, x22) next15 =>
 bif decide (x22 < 3) then
 zy (α := (TMs × ((List (PPt × Bool)) × (PPt × (LTr × (Int × (Int × ((PPt × (PPt × PPt)) × Int)))))))) (fun (y23, y24, y25, y26, y27, y28, y29, y30) =>
 bif toT Bool (lkM (.pair (.int .i64) (.int .i64)) .bool y24 (y25.1, y25.2)) then
 some 2
 else
 gd (!(hsM (.pair (.int .i64) (.int .i64)) .bool y24 (y25.1, y25.2))) <|
 next15 ((y23.1, y23.2.1, y23.2.2), adM (.pair (.int .i64) (.int .i64)) .bool y24 (y25.1, y25.2) true, y26, y27, y28, ((y29.1.1, y29.1.2), (y29.2.1.1, y29.2.1.2), y29.2.2.1, y29.2.2.2), w64 (y30 + 1))) fun j31 =>
 bif decide (x22 = 0) then
 j31 ((x16.1, x16.2.1, x16.2.2), x17, (x21.1.1, x21.1.2), x18, x19, x20, ((x21.1.1, x21.1.2), (x21.2.1.1, x21.2.1.2), x21.2.2.1, x21.2.2.2), x22)
 else
 bif decide (x22 = 1) then
 j31 ((x16.1, x16.2.1, x16.2.2), x17, (x21.2.1.1, x21.2.1.2), x18, x19, x20, ((x21.1.1, x21.1.2), (x21.2.1.1, x21.2.1.2), x21.2.2.1, x21.2.2.2), x22)
 else
 bif decide (x22 = 2) then
 j31 ((x16.1, x16.2.1, x16.2.2), x17, (x21.2.2.1, x21.2.2.2), x18, x19, x20, ((x21.1.1, x21.1.2), (x21.2.1.1, x21.2.1.2), x21.2.2.1, x21.2.2.2), x22)
 else
 none
 else
 next0 ((x16.1, x16.2.1, x16.2.2), x17, x18, x19, w64 (x20 + 1))) k ((y7.1, y7.2.1, y7.2.2), y8, y10, y11, y12, ((r14.1.1, r14.1.2), (r14.2.1.1, r14.2.1.2), r14.2.2.1, r14.2.2.2), 0)) fun j32 =>
 bif !r6.2 then
 j32 ((x1.1, x1.2.1, x1.2.2), x2, ((rdD (0, 0, 0) x3 x5).1, (rdD (0, 0, 0) x3 x5).2.1, (rdD (0, 0, 0) x3 x5).2.2), x3, x4, x5, true)
 else
 bif !((decide (r6.1.1 = (rdD (0, 0, 0) x3 x5).1)) && ((decide (r6.1.2.1 = (rdD (0, 0, 0) x3 x5).2.1)) && (decide (r6.1.2.2 = (rdD (0, 0, 0) x3 x5).2.2)))) then
 j32 ((x1.1, x1.2.1, x1.2.2), x2, ((rdD (0, 0, 0) x3 x5).1, (rdD (0, 0, 0) x3 x5).2.1, (rdD (0, 0, 0) x3 x5).2.2), x3, x4, x5, true)
 else
 bif decide (x5 > 0) then
 gd (inb (w64 (x5 - 1)) x1.2.1.length) <|
 bnd (zag ((rdD (0, 0, 0) x1.2.1 (w64 (x5 - 1))).1, (rdD (0, 0, 0) x1.2.1 (w64 (x5 - 1))).2.1, (rdD (0, 0, 0) x1.2.1 (w64 (x5 - 1))).2.2) ((rdD (0, 0, 0) x3 x5).1, (rdD (0, 0, 0) x3 x5).2.1, (rdD (0, 0, 0) x3 x5).2.2)) fun r33 =>
 j32 ((x1.1, x1.2.1, x1.2.2), x2, ((rdD (0, 0, 0) x3 x5).1, (rdD (0, 0, 0) x3 x5).2.1, (rdD (0, 0, 0) x3 x5).2.2), x3, x4, x5, decide (r33 ≥ 0))
 else
 j32 ((x1.1, x1.2.1, x1.2.2), x2, ((rdD (0, 0, 0) x3 x5).1, (rdD (0, 0, 0) x3 x5).2.1, (rdD (0, 0, 0) x3 x5).2.2), x3, x4, x5, false)
 else
 zx (α := (TMs × ((List (PPt × Bool)) × ((List (PPt × Bool)) × (LPt × PPt))))) (fun (x35, x36, x37, x38, x39, x40) next34 =>
 bif decide (x40 < x39) then
 gd (inb x40 x38.length) <|
 zy (α := (TMs × ((List (PPt × Bool)) × ((List (PPt × Bool)) × (PPt × (LPt × (Int × (Int × Bool)))))))) (fun (y41, y42, y43, y44, y45, y46, y47, y48) =>
 bif y48 then
 some 2
 else
 gd (!(hsM (.pair (.int .i64) (.int .i64)) .bool y43 (y44.1, y44.2))) <|
 next34 ((y41.1, y41.2.1, y41.2.2), y42, adM (.pair (.int .i64) (.int .i64)) .bool y43 (y44.1, y44.2) true, y45, y46, w64 (y47 + 1))) fun j49 =>
 bif decide ((rdD (0, 0) x38 x40).1 ≥ (rdD (0, 0) x38 x40).2) then
 j49 ((x35.1, x35.2.1, x35.2.2), x36, x37, ((rdD (0, 0) x38 x40).1, (rdD (0, 0) x38 x40).2), x38, x39, x40, true)
 else
 bif decide (x40 > 0) then
 gd (inb (w64 (x40 - 1)) x35.2.2.length) <|
 bnd (zab ((rdD (0, 0) x35.2.2 (w64 (x40 - 1))).1, (rdD (0, 0) x35.2.2 (w64 (x40 - 1))).2) ((rdD (0, 0) x38 x40).1, (rdD (0, 0) x38 x40).2)) fun r50 =>
 bif decide (r50 ≥ 0) then
 j49 ((x35.1, x35.2.1, x35.2.2), x36, x37, ((rdD (0, 0) x38 x40).1, (rdD (0, 0) x38 x40).2), x38, x39, x40, true)
 else
 bif !(toT Bool (lkM (.pair (.int .i64) (.int .i64)) .bool x36 ((rdD (0, 0) x38 x40).1, (rdD (0, 0) x38 x40).2))) then
 j49 ((x35.1, x35.2.1, x35.2.2), x36, x37, ((rdD (0, 0) x38 x40).1, (rdD (0, 0) x38 x40).2), x38, x39, x40, !(toT Bool (lkM (.pair (.int .i64) (.int .i64)) .bool x36 ((rdD (0, 0) x38 x40).2, (rdD (0, 0) x38 x40).1))))
 else
 j49 ((x35.1, x35.2.1, x35.2.2), x36, x37, ((rdD (0, 0) x38 x40).1, (rdD (0, 0) x38 x40).2), x38, x39, x40, false)
 else
 bif !(toT Bool (lkM (.pair (.int .i64) (.int .i64)) .bool x36 ((rdD (0, 0) x38 x40).1, (rdD (0, 0) x38 x40).2))) then
 j49 ((x35.1, x35.2.1, x35.2.2), x36, x37, ((rdD (0, 0) x38 x40).1, (rdD (0, 0) x38 x40).2), x38, x39, x40, !(toT Bool (lkM (.pair (.int .i64) (.int .i64)) .bool x36 ((rdD (0, 0) x38 x40).2, (rdD (0, 0) x38 x40).1))))
 else
 j49 ((x35.1, x35.2.1, x35.2.2), x36, x37, ((rdD (0, 0) x38 x40).1, (rdD (0, 0) x38 x40).2), x38, x39, x40, false)
 else
 zx (α := ((List (PPt × Bool)) × ((List (PPt × Bool)) × (List (PPt × Bool))))) (fun (x52, x53, x54) next51 =>
 nxt x54 (
 some 0) (fun (e56, e57) r55 =>
 zy (α := ((List (PPt × Bool)) × ((List (PPt × Bool)) × ((List (PPt × Bool)) × Bool)))) (fun (y58, y59, y60, y61) =>
 bif y61 then
 some 2
 else
 next51 (y58, y59, y60)) fun j62 =>
 bif !(toT Bool (lkM (.pair (.int .i64) (.int .i64)) .bool x52 (e56.2, e56.1))) then
 bnd (Z5 (e56.1, e56.2)) fun r63 =>
 j62 (x52, x53, r55, !(toT Bool (lkM (.pair (.int .i64) (.int .i64)) .bool x53 (r63.1, r63.2))))
 else
 j62 (x52, x53, r55, false))) k (x36, x37, x36)) k ((x1.1, x1.2.1, x1.2.2), x2, [], x1.2.2, (x1.2.2.length : Int), 0)) k ((a0.1, a0.2.1, a0.2.2), [], a0.2.1, (a0.2.1.length : Int), 0)
theorem zkR (k : Nat) (QY : LPt → Int → Int → Int → Option ((Int × PPt) × Bool)) (zag : (Int × PPt) → (Int × PPt) → Option Int) (zar : (Int × PPt) → Option (PPt × (PPt × PPt))) (zab : PPt → PPt → Option Int) (Z5 : PPt → Option PPt) (a0 : TMs) : zM [⟨40, [.d kLP, .d kI, .d kI, .d kI], [.pair kI kPP, .bool], fun x => QY (x.1) (x.2.1) (x.2.2.1) (x.2.2.2), none⟩, ⟨57, [.d (.pair kI kPP), .d (.pair kI kPP)], [kI], fun x => zag (x.1) (x.2), none⟩, ⟨60, [.d (.pair kI kPP)], [.pair kPP (.pair kPP kPP)], fun x => zar x, none⟩, ⟨49, [.d kPP, .d kPP], [kI], fun x => zab (x.1) (x.2), none⟩, ⟨61, [.d kPP], [.pair kI kI], fun x => Z5 x, none⟩] tb k Tryz.f21 zfl [.d (.pair kLP (.pair (.sl (.pair kI kPP)) kLP))] [kI] a0 = zct k QY zag zar zab Z5 a0 := by kernel_rfl
def Yl (k : Nat) (a0 : TMs) : Option Int := zct k (ZX k) (QU k) (J1 k) (Z8 k) (Q8 k) a0
theorem zhJ (k : Nat) : zv Tryz.prog 21 [.d (.pair kLP (.pair (.sl (.pair kI kPP)) kLP))] [kI] (fun x => Yl k x) := fun x y h => zh zN mix (zo.cons (ze.of rfl (zd0 k)) (zo.cons (ze.of rfl (zbT k)) (zo.cons (ze.of rfl (zhL k)) (zo.cons (ze.of rfl (zbW k)) (zo.cons (ze.of rfl (zbu k)) (zo.nil _)))))) Tryz.func21 (N := k) (an := zfl) (by kernel_rfl) x y ((zkR k (ZX k) (QU k) (J1 k) (Z8 k) (Q8 k) x).trans h)
def YH : Ann := uNn uLf (uNn uLf (uNn uLf (uNn uLf (uNn uLf (uNn (.node (some [(0, .d .bool)]) none uLf uLf) uLf)))))
def JG (k : Nat) (qZ : TPl → Option (LPt × Int)) (ZI : TPl → Option (TMs × Int)) (qn : LPt → LPt → Option Bool) (Zt : LTr → LTr → Option Bool) (zaj : TMs → Option Int) : Option Bool :=
 bnd (qZ ([(0, 0), (4, 0), (4, 4), (0, 4)], [(0, 1), (1, 2), (2, 3), (3, 0)], [])) fun r0 =>
 bnd (ZI ([(0, 0), (4, 0), (4, 4), (0, 4)], [(0, 1), (1, 2), (2, 3), (3, 0)], [])) fun r1 =>
 bnd (ZI ([], [], [])) fun r2 =>
 zy (α := Bool) (fun y3 =>
 some y3) fun j4 =>
 bnd (qn r0.1 [(0, 1), (0, 2), (0, 3), (1, 2), (2, 3)]) fun r5 =>
 bif r5 then
 bif decide (r0.2 = 0) then
 bnd (Zt r1.1.2.1 [(0, 1, 2), (0, 2, 3)]) fun r6 =>
 bif r6 then
 bif decide (r1.2 = 0) then
 bnd (zaj (r1.1.1, r1.1.2.1, r1.1.2.2)) fun r7 =>
 bif decide (r7 = 0) then
 j4 (decide (r2.2 = 2))
 else
 j4 false
 else
 j4 false
 else
 j4 false
 else
 j4 false
 else
 j4 false
theorem zdG (k : Nat) (qZ : TPl → Option (LPt × Int)) (ZI : TPl → Option (TMs × Int)) (qn : LPt → LPt → Option Bool) (Zt : LTr → LTr → Option Bool) (zaj : TMs → Option Int) : zM [⟨13, [.d kPl], [.sl kPP, kI], fun x => qZ x, none⟩, ⟨15, [.d kPl], [.pair kLP (.pair (.sl (.pair kI kPP)) kLP), kI], fun x => ZI x, none⟩, ⟨17, [.d kLP, .d kLP], [.bool], fun x => qn (x.1) (x.2), none⟩, ⟨44, [.d (.sl (.pair kI kPP)), .d (.sl (.pair kI kPP))], [.bool], fun x => Zt (x.1) (x.2), none⟩, ⟨21, [.d (.pair kLP (.pair (.sl (.pair kI kPP)) kLP))], [kI], fun x => zaj x, none⟩] tbx k Tryz.f11 YH [] [.bool] () = JG k qZ ZI qn Zt zaj := by kernel_rfl
def jH (k : Nat) : Option Bool := JG k (js k) (ZL k) (qo k) (qN k) (Yl k)
theorem zbN (k : Nat) : zv Tryz.prog 11 [] [.bool] (fun x => jH k) := fun x y h => zh zs0 mix (zo.cons (ze.of rfl (Y7 k)) (zo.cons (ze.of rfl (zc8 k)) (zo.cons (ze.of rfl (Jk k)) (zo.cons (ze.of rfl (zan k)) (zo.cons (ze.of rfl (zhJ k)) (zo.nil _)))))) Tryz.func11 (N := k) (an := YH) (by kernel_rfl) x y ((zdG k (js k) (ZL k) (qo k) (qN k) (Yl k)).trans h)
def Xz : Ann := uNn uLf (uNn (.node (some [(2, .d .bool)]) none uLf uLf) uLf)
def zX (k : Nat) (a0 : PPt) : Option Bool :=
 zy (α := Bool) (fun y0 =>
 some y0) fun j1 =>
 bif decide (a0.1 ≥ (-4294967296)) then
 bif decide (a0.1 ≤ 4294967296) then
 bif decide (a0.2 ≥ (-4294967296)) then
 j1 (decide (a0.2 ≤ 4294967296))
 else
 j1 false
 else
 j1 false
 else
 j1 false
theorem zd6 (k : Nat) (a0 : PPt) : zM [] tb k Tryz.f72 Xz [.d kPP] [.bool] a0 = zX k a0 := by kernel_rfl
theorem jA (k : Nat) : zv Tryz.prog 72 [.d kPP] [.bool] (fun x => zX k x) := fun x y h => zh zN mix (zo.nil _) Tryz.func72 (N := k) (an := Xz) (by kernel_rfl) x y ((zd6 k x).trans h)
def XF : Ann := uNn uLf (uNn uLf (uNn (uNn (.node none (some [(0, .d .bool), (1, .d (.sl kI)), (4, .box [.d .bool, .row kI 3]), (5, .d kI)]) (uNn (uNn (.node (some [(0, .d .bool), (1, .d (.sl kI)), (4, .box [.d .bool, .row kI 3]), (5, .d kI), (17, .d .bool)]) none uLf uLf) uLf) uLf) uLf) uLf) (uNn (.node (some [(4, .box [.d (.pair .bool (.sl kI))])]) none uLf uLf) uLf)))
def zu (k : Nat) (a0 : Bool) (a1 : (List Int)) : Option (Bool × (List Int)) :=
 zx (α := (Bool × ((List Int) × ((Bool × (List Int)) × Int)))) (fun (x1, x2, x3, x4) next0 =>
 zy (α := (Bool × ((List Int) × ((Bool × (List Int)) × (Int × Bool))))) (fun (y5, y6, y7, y8, y9) =>
 bif y9 then
 next0 (y5, y6, (y7.1, y7.2), w64 (y8 - 1))
 else
 zy (α := (Bool × (List Int))) (fun (y10, y11) =>
 some (y10, y11)) fun j12 =>
 bif y5 then
 gd (decide (0 ≤ y8)) <|
 gd (decide (y8 ≤ (y6.length : Int))) <|
 j12 (decide (y8 > 0), tkL y6 y8)
 else
 gd (decide (0 ≤ y8)) <|
 gd (decide (y8 ≤ (y6.length : Int))) <|
 j12 (false, tkL y6 y8)) fun j13 =>
 bif decide (x4 > 0) then
 gd (inb (w64 (x4 - 1)) x2.length) <|
 j13 (x1, x2, (x3.1, x3.2), x4, decide ((rdD 0 x2 (w64 (x4 - 1))) = 0))
 else
 j13 (x1, x2, (x3.1, x3.2), x4, false)) k (a0, a1, (false, []), (a1.length : Int))
theorem zdW (k : Nat) (a0 : Bool) (a1 : (List Int)) : zM [] tb k Tryz.f98 XF [.d .bool, .d (.sl kI)] [.pair .bool (.sl kI)] (a0, a1) = zu k a0 a1 := by kernel_rfl
theorem QN (k : Nat) : zv Tryz.prog 98 [.d .bool, .d (.sl kI)] [.pair .bool (.sl kI)] (fun x => zu k (x.1) (x.2)) := fun x y h => zh zN mix (zo.nil _) Tryz.func98 (N := k) (an := XF) (by kernel_rfl) x y ((zdW k (x.1) (x.2)).trans h)
def YG : Ann := uNn uLf (uNn uLf (uNn uLf (uNn (uNn (.node none (some [(0, .d kI), (2, .box [.d .bool, .row kI 3]), (3, .row kI 3), (4, .d kI)]) (uNn uLf (uNn (uNn uLf (uNn (uNn uLf (.node (some [(0, .d kI), (2, .box [.d .bool, .row kI 3]), (3, .row kI 3), (4, .d kI), (5, .d kI)]) none uLf uLf)) uLf)) uLf)) uLf) uLf) uLf)))
def Z9 (k : Nat) (zY : Bool → (List Int) → Option (Bool × (List Int))) (a0 : Int) : Option (Bool × (List Int)) :=
 zx (α := (Int × ((Bool × (List Int)) × ((List Int) × Int)))) (fun (x1, x2, x3, x4) next0 =>
 bif !(decide (x4 = 0)) then
 zy (α := (Int × ((Bool × (List Int)) × ((List Int) × PPt)))) (fun (y5, y6, y7, y8, y9) =>
 gd (few (y7.length + 1)) <|
 next0 (y5, (y6.1, y6.2), y7 ++ [y9], w64 (y8.tdiv 65536))) fun j10 =>
 bif decide ((x4.tmod 65536) < 0) then
 j10 (x1, (x2.1, x2.2), x3, x4, w64 (0 - (x4.tmod 65536)))
 else
 j10 (x1, (x2.1, x2.2), x3, x4, x4.tmod 65536)
 else
 bnd (zY (decide (x1 < 0)) x3) fun r11 =>
 some (r11.1, r11.2)) k (a0, (false, []), [], a0)
theorem zdx (k : Nat) (zY : Bool → (List Int) → Option (Bool × (List Int))) (a0 : Int) : zM [⟨98, [.d .bool, .d (.sl kI)], [.pair .bool (.sl kI)], fun x => zY (x.1) (x.2), none⟩] tb k Tryz.f102 YG [.d kI] [.pair .bool (.sl kI)] a0 = Z9 k zY a0 := by kernel_rfl
def zI (k : Nat) (a0 : Int) : Option (Bool × (List Int)) := Z9 k (zu k) a0
theorem QA (k : Nat) : zv Tryz.prog 102 [.d kI] [.pair .bool (.sl kI)] (fun x => zI k x) := fun x y h => zh zN mix (zo.cons (ze.of rfl (QN k)) (zo.nil _)) Tryz.func102 (N := k) (an := YG) (by kernel_rfl) x y ((zdx k (zu k) x).trans h)
def XU : Ann := uLf
def KO (k : Nat) (zG : Int → Option (Bool × (List Int))) (a0 : Int) : Option (Bool × (List Int)) :=
 bnd (zG a0) fun r0 =>
 some (r0.1, r0.2)
theorem zfg (k : Nat) (zG : Int → Option (Bool × (List Int))) (a0 : Int) : zM [⟨102, [.d kI], [.pair .bool (.sl kI)], fun x => zG x, none⟩] tb k Tryz.f101 XU [.d kI] [.pair .bool (.sl kI)] a0 = KO k zG a0 := by kernel_rfl
def ZP (k : Nat) (a0 : Int) : Option (Bool × (List Int)) := KO k (zI k) a0
theorem zcS (k : Nat) : zv Tryz.prog 101 [.d kI] [.pair .bool (.sl kI)] (fun x => ZP k x) := fun x y h => zh zN mix (zo.cons (ze.of rfl (QA k)) (zo.nil _)) Tryz.func101 (N := k) (an := XU) (by kernel_rfl) x y ((zfg k (zI k) x).trans h)
def Yy : Ann := uLf
def qC (k : Nat) (a0 : (List Int)) (a1 : Int) : Option Int :=
 bif decide (a1 < (a0.length : Int)) then
 gd (inb a1 a0.length) <|
 some (rdD 0 a0 a1)
 else
 some 0
theorem zdL (k : Nat) (a0 : (List Int)) (a1 : Int) : zM [] tb k Tryz.f97 Yy [.d (.sl kI), .d kI] [kI] (a0, a1) = qC k a0 a1 := by kernel_rfl
theorem Kz (k : Nat) : zv Tryz.prog 97 [.d (.sl kI), .d kI] [kI] (fun x => qC k (x.1) (x.2)) := fun x y h => zh zN mix (zo.nil _) Tryz.func97 (N := k) (an := Yy) (by kernel_rfl) x y ((zdL k (x.1) (x.2)).trans h)
def J7 : Ann := uNn uLf (uNn uLf (uNn (uNn uLf (uNn (.node none (some [(2, .box [.d (.pair .bool (.sl kI))]), (3, .box [.d (.pair .bool (.sl kI))]), (4, .box [.d .bool, .row kI 3]), (5, .row kI 3), (6, .d kI)]) (uNn uLf (uNn (uNn (uNn uLf (uNn uLf (uNn (.node none (some [(2, .box [.d (.pair .bool (.sl kI))]), (3, .box [.d (.pair .bool (.sl kI))]), (4, .box [.d .bool, .row kI 3]), (5, .row kI 3), (6, .d kI), (7, .d kI), (8, .d kI)]) (uNn (uNn (.node (some [(2, .box [.d (.pair .bool (.sl kI))]), (3, .box [.d (.pair .bool (.sl kI))]), (4, .box [.d .bool, .row kI 3]), (5, .row kI 3), (6, .d kI), (7, .d kI), (8, .d kI), (34, .d .bool)]) none uLf uLf) uLf) uLf) uLf) uLf))) uLf) uLf)) uLf) uLf)) uLf))
def Qz (k : Nat) (qm : (List Int) → Int → Option Int) (zY : Bool → (List Int) → Option (Bool × (List Int))) (a0 : (Bool × (List Int))) (a1 : (Bool × (List Int))) : Option (Bool × (List Int)) :=
 gd (decide (0 ≤ (w64 ((w64 ((a0.2.length : Int) + (a1.2.length : Int))) + 1)))) <|
 gd (zgq (w64 ((w64 ((a0.2.length : Int) + (a1.2.length : Int))) + 1))) <|
 zx (α := ((Bool × (List Int)) × ((Bool × (List Int)) × ((Bool × (List Int)) × ((List Int) × Int))))) (fun (x1, x2, x3, x4, x5) next0 =>
 bif decide (x5 < (x1.2.length : Int)) then
 zx (α := ((Bool × (List Int)) × ((Bool × (List Int)) × ((Bool × (List Int)) × ((List Int) × (Int × PPt)))))) (fun (x7, x8, x9, x10, x11, x12, x13) next6 =>
 zy (α := ((Bool × (List Int)) × ((Bool × (List Int)) × ((Bool × (List Int)) × ((List Int) × (Int × (Int × (Int × Bool)))))))) (fun (y14, y15, y16, y17, y18, y19, y20, y21) =>
 bif y21 then
 gd (inb (w64 (y18 + y20)) y17.length) <|
 gd (inb y18 y14.2.length) <|
 bnd (qm y15.2 y20) fun r22 =>
 gd (inb (w64 (y18 + y20)) y17.length) <|
 next6 ((y14.1, y14.2), (y15.1, y15.2), (y16.1, y16.2), stL y17 (w64 (y18 + y20)) ((w64 ((w64 ((rdD 0 y17 (w64 (y18 + y20))) + (w64 ((rdD 0 y14.2 y18) * r22)))) + y19)).tmod 65536), y18, w64 ((w64 ((w64 ((rdD 0 y17 (w64 (y18 + y20))) + (w64 ((rdD 0 y14.2 y18) * r22)))) + y19)).tdiv 65536), w64 (y20 + 1))
 else
 next0 ((y14.1, y14.2), (y15.1, y15.2), (y16.1, y16.2), y17, w64 (y18 + 1))) fun j23 =>
 bif decide (x13 < (x8.2.length : Int)) then
 j23 ((x7.1, x7.2), (x8.1, x8.2), (x9.1, x9.2), x10, x11, x12, x13, true)
 else
 j23 ((x7.1, x7.2), (x8.1, x8.2), (x9.1, x9.2), x10, x11, x12, x13, decide (x12 > 0))) k ((x1.1, x1.2), (x2.1, x2.2), (x3.1, x3.2), x4, x5, 0, 0)
 else
 bnd (zY (!(x1.1 == x2.1)) x4) fun r24 =>
 some (r24.1, r24.2)) k ((a0.1, a0.2), (a1.1, a1.2), (false, []), rpL (w64 ((w64 ((a0.2.length : Int) + (a1.2.length : Int))) + 1)) 0, 0)
theorem za4 (k : Nat) (qm : (List Int) → Int → Option Int) (zY : Bool → (List Int) → Option (Bool × (List Int))) (a0 : (Bool × (List Int))) (a1 : (Bool × (List Int))) : zM [⟨97, [.d (.sl kI), .d kI], [kI], fun x => qm (x.1) (x.2), none⟩, ⟨98, [.d .bool, .d (.sl kI)], [.pair .bool (.sl kI)], fun x => zY (x.1) (x.2), none⟩] tb k Tryz.f103 J7 [.d (.pair .bool (.sl kI)), .d (.pair .bool (.sl kI))] [.pair .bool (.sl kI)] (a0, a1) = Qz k qm zY a0 a1 := by kernel_rfl
def zJ (k : Nat) (a0 : (Bool × (List Int))) (a1 : (Bool × (List Int))) : Option (Bool × (List Int)) := Qz k (qC k) (zu k) a0 a1
theorem Zx (k : Nat) : zv Tryz.prog 103 [.d (.pair .bool (.sl kI)), .d (.pair .bool (.sl kI))] [.pair .bool (.sl kI)] (fun x => zJ k (x.1) (x.2)) := fun x y h => zh zN mix (zo.cons (ze.of rfl (Kz k)) (zo.cons (ze.of rfl (QN k)) (zo.nil _))) Tryz.func103 (N := k) (an := J7) (by kernel_rfl) x y ((za4 k (qC k) (zu k) (x.1) (x.2)).trans h)
def KX : Ann := uNn uLf (uNn (.node (some [(2, .box [.d (.pair .bool (.sl kI))])]) none uLf uLf) uLf)
def qj (k : Nat) (a0 : (Bool × (List Int))) : Option (Bool × (List Int)) :=
 zy (α := (Bool × (List Int))) (fun (y0, y1) =>
 some (y0, y1)) fun j2 =>
 bif !a0.1 then
 j2 (decide ((a0.2.length : Int) > 0), a0.2)
 else
 j2 (false, a0.2)
theorem zcm (k : Nat) (a0 : (Bool × (List Int))) : zM [] tb k Tryz.f66 KX [.d (.pair .bool (.sl kI))] [.pair .bool (.sl kI)] a0 = qj k a0 := by kernel_rfl
theorem Jx (k : Nat) : zv Tryz.prog 66 [.d (.pair .bool (.sl kI))] [.pair .bool (.sl kI)] (fun x => qj k x) := fun x y h => zh zN mix (zo.nil _) Tryz.func66 (N := k) (an := KX) (by kernel_rfl) x y ((zcm k x).trans h)
def Xw : Ann := uNn uLf (uNn uLf (uNn (uNn uLf (uNn (.node none (some [(0, .d (.sl kI)), (1, .d (.sl kI)), (5, .d kI)]) uLf uLf) uLf)) uLf))
def jS (k : Nat) (a0 : (List Int)) (a1 : (List Int)) : Option Int :=
 bif !(decide ((a0.length : Int) = (a1.length : Int))) then
 some (w64 ((a0.length : Int) - (a1.length : Int)))
 else
 zx (α := ((List Int) × ((List Int) × Int))) (fun (x1, x2, x3) next0 =>
 bif decide (x3 ≥ 0) then
 gd (inb x3 x1.length) <|
 gd (inb x3 x2.length) <|
 bif !(decide ((rdD 0 x1 x3) = (rdD 0 x2 x3))) then
 gd (inb x3 x1.length) <|
 gd (inb x3 x2.length) <|
 some (w64 ((rdD 0 x1 x3) - (rdD 0 x2 x3)))
 else
 next0 (x1, x2, w64 (x3 - 1))
 else
 some 0) k (a0, a1, w64 ((a0.length : Int) - 1))
theorem zen (k : Nat) (a0 : (List Int)) (a1 : (List Int)) : zM [] tb k Tryz.f99 Xw [.d (.sl kI), .d (.sl kI)] [kI] (a0, a1) = jS k a0 a1 := by kernel_rfl
theorem zb2 (k : Nat) : zv Tryz.prog 99 [.d (.sl kI), .d (.sl kI)] [kI] (fun x => jS k (x.1) (x.2)) := fun x y h => zh zN mix (zo.nil _) Tryz.func99 (N := k) (an := Xw) (by kernel_rfl) x y ((zen k (x.1) (x.2)).trans h)
def Kq : Ann := uNn uLf (uNn uLf (uNn uLf (uNn (uNn uLf (uNn (uNn (uNn uLf (uNn (.node none (some [(2, .box [.d (.pair .bool (.sl kI))]), (3, .box [.d (.pair .bool (.sl kI))]), (4, .box [.d .bool, .row kI 3]), (5, .row kI 3), (6, .d kI), (7, .d kI)]) (uNn (uNn (.node (some [(2, .box [.d (.pair .bool (.sl kI))]), (3, .box [.d (.pair .bool (.sl kI))]), (4, .box [.d .bool, .row kI 3]), (5, .row kI 3), (6, .d kI), (7, .d kI), (33, .d .bool)]) none uLf uLf) uLf) uLf) uLf) uLf)) uLf) uLf)) (uNn uLf (uNn uLf (uNn (uNn uLf (.node (some [(4, .box [.d .bool, .row kI 3]), (5, .row kI 3), (6, .d kI), (9, .box [.d (.pair .bool (.sl kI))]), (10, .box [.d (.pair .bool (.sl kI))])]) none uLf uLf)) (uNn (uNn uLf (uNn (.node none (some [(4, .box [.d .bool, .row kI 3]), (5, .row kI 3), (6, .d kI), (9, .box [.d (.pair .bool (.sl kI))]), (10, .box [.d (.pair .bool (.sl kI))]), (11, .d kI)]) (uNn uLf (uNn (uNn (uNn uLf (uNn uLf (uNn (uNn uLf (.node (some [(4, .box [.d .bool, .row kI 3]), (5, .row kI 3), (6, .d kI), (9, .box [.d (.pair .bool (.sl kI))]), (10, .box [.d (.pair .bool (.sl kI))]), (11, .d kI), (12, .d kI)]) none uLf uLf)) uLf))) uLf) uLf)) uLf) uLf)) uLf)))))))
def Zr (k : Nat) (qm : (List Int) → Int → Option Int) (zY : Bool → (List Int) → Option (Bool × (List Int))) (QD : (List Int) → (List Int) → Option Int) (a0 : (Bool × (List Int))) (a1 : (Bool × (List Int))) : Option (Bool × (List Int)) :=
 bif a0.1 == a1.1 then
 zx (α := ((Bool × (List Int)) × ((Bool × (List Int)) × ((Bool × (List Int)) × ((List Int) × PPt))))) (fun (x1, x2, x3, x4, x5, x6) next0 =>
 zy (α := ((Bool × (List Int)) × ((Bool × (List Int)) × ((Bool × (List Int)) × ((List Int) × (Int × (Int × Bool))))))) (fun (y7, y8, y9, y10, y11, y12, y13) =>
 bif y13 then
 bnd (qm y7.2 y12) fun r14 =>
 bnd (qm y8.2 y12) fun r15 =>
 gd (few (y10.length + 1)) <|
 next0 ((y7.1, y7.2), (y8.1, y8.2), (y9.1, y9.2), y10 ++ [(w64 ((w64 (r14 + r15)) + y11)).tmod 65536], w64 ((w64 ((w64 (r14 + r15)) + y11)).tdiv 65536), w64 (y12 + 1))
 else
 bnd (zY y7.1 y10) fun r16 =>
 some (r16.1, r16.2)) fun j17 =>
 bif decide (x6 < (x1.2.length : Int)) then
 j17 ((x1.1, x1.2), (x2.1, x2.2), (x3.1, x3.2), x4, x5, x6, true)
 else
 bif decide (x6 < (x2.2.length : Int)) then
 j17 ((x1.1, x1.2), (x2.1, x2.2), (x3.1, x3.2), x4, x5, x6, true)
 else
 j17 ((x1.1, x1.2), (x2.1, x2.2), (x3.1, x3.2), x4, x5, x6, decide (x5 > 0))) k ((a0.1, a0.2), (a1.1, a1.2), (false, []), [], 0, 0)
 else
 bnd (QD a0.2 a1.2) fun r18 =>
 zy (α := ((Bool × (List Int)) × ((List Int) × (Int × ((Bool × (List Int)) × (Bool × (List Int))))))) (fun (y19, y20, y21, y22, y23, y24) =>
 zx (α := ((Bool × (List Int)) × ((List Int) × (Int × ((Bool × (List Int)) × ((Bool × (List Int)) × Int)))))) (fun (x26, x27, x28, x29, x30, x31) next25 =>
 bif decide (x31 < (x29.2.length : Int)) then
 gd (inb x31 x29.2.length) <|
 bnd (qm x30.2 x31) fun r32 =>
 zy (α := ((Bool × (List Int)) × ((List Int) × (Int × ((Bool × (List Int)) × ((Bool × (List Int)) × PPt)))))) (fun (y33, y34, y35, y36, y37, y38, y39) =>
 gd (few (y34.length + 1)) <|
 next25 ((y33.1, y33.2), y34 ++ [y39], y35, (y36.1, y36.2), (y37.1, y37.2), w64 (y38 + 1))) fun j40 =>
 bif decide ((w64 ((w64 ((rdD 0 x29.2 x31) - r32)) - x28)) < 0) then
 j40 ((x26.1, x26.2), x27, 1, (x29.1, x29.2), (x30.1, x30.2), x31, w64 ((w64 ((w64 ((rdD 0 x29.2 x31) - r32)) - x28)) + 65536))
 else
 j40 ((x26.1, x26.2), x27, 0, (x29.1, x29.2), (x30.1, x30.2), x31, w64 ((w64 ((rdD 0 x29.2 x31) - r32)) - x28))
 else
 bnd (zY x29.1 x27) fun r41 =>
 some (r41.1, r41.2)) k ((y19.1, y19.2), y20, y21, (y22.1, y22.2), (y23, y24), 0)) fun j42 =>
 bif decide (r18 < 0) then
 j42 ((false, []), [], 0, (a1.1, a1.2), a0.1, a0.2)
 else
 j42 ((false, []), [], 0, (a0.1, a0.2), a1.1, a1.2)
theorem zbA (k : Nat) (qm : (List Int) → Int → Option Int) (zY : Bool → (List Int) → Option (Bool × (List Int))) (QD : (List Int) → (List Int) → Option Int) (a0 : (Bool × (List Int))) (a1 : (Bool × (List Int))) : zM [⟨97, [.d (.sl kI), .d kI], [kI], fun x => qm (x.1) (x.2), none⟩, ⟨98, [.d .bool, .d (.sl kI)], [.pair .bool (.sl kI)], fun x => zY (x.1) (x.2), none⟩, ⟨99, [.d (.sl kI), .d (.sl kI)], [kI], fun x => QD (x.1) (x.2), none⟩] tb k Tryz.f64 Kq [.d (.pair .bool (.sl kI)), .d (.pair .bool (.sl kI))] [.pair .bool (.sl kI)] (a0, a1) = Zr k qm zY QD a0 a1 := by kernel_rfl
def zD (k : Nat) (a0 : (Bool × (List Int))) (a1 : (Bool × (List Int))) : Option (Bool × (List Int)) := Zr k (qC k) (zu k) (jS k) a0 a1
theorem jI (k : Nat) : zv Tryz.prog 64 [.d (.pair .bool (.sl kI)), .d (.pair .bool (.sl kI))] [.pair .bool (.sl kI)] (fun x => zD k (x.1) (x.2)) := fun x y h => zh zN mix (zo.cons (ze.of rfl (Kz k)) (zo.cons (ze.of rfl (QN k)) (zo.cons (ze.of rfl (zb2 k)) (zo.nil _)))) Tryz.func64 (N := k) (an := Kq) (by kernel_rfl) x y ((zbA k (qC k) (zu k) (jS k) (x.1) (x.2)).trans h)
def YN : Ann := uLf
def JL (k : Nat) (qq : (Bool × (List Int)) → Option (Bool × (List Int))) (zz : (Bool × (List Int)) → (Bool × (List Int)) → Option (Bool × (List Int))) (a0 : (Bool × (List Int))) (a1 : (Bool × (List Int))) : Option (Bool × (List Int)) :=
 bnd (qq (a1.1, a1.2)) fun r0 =>
 bnd (zz (a0.1, a0.2) (r0.1, r0.2)) fun r1 =>
 some (r1.1, r1.2)
theorem zdK (k : Nat) (qq : (Bool × (List Int)) → Option (Bool × (List Int))) (zz : (Bool × (List Int)) → (Bool × (List Int)) → Option (Bool × (List Int))) (a0 : (Bool × (List Int))) (a1 : (Bool × (List Int))) : zM [⟨66, [.d (.pair .bool (.sl kI))], [.pair .bool (.sl kI)], fun x => qq x, none⟩, ⟨64, [.d (.pair .bool (.sl kI)), .d (.pair .bool (.sl kI))], [.pair .bool (.sl kI)], fun x => zz (x.1) (x.2), none⟩] tb k Tryz.f143 YN [.d (.pair .bool (.sl kI)), .d (.pair .bool (.sl kI))] [.pair .bool (.sl kI)] (a0, a1) = JL k qq zz a0 a1 := by kernel_rfl
def jC (k : Nat) (a0 : (Bool × (List Int))) (a1 : (Bool × (List Int))) : Option (Bool × (List Int)) := JL k (qj k) (zD k) a0 a1
theorem zbn (k : Nat) : zv Tryz.prog 143 [.d (.pair .bool (.sl kI)), .d (.pair .bool (.sl kI))] [.pair .bool (.sl kI)] (fun x => jC k (x.1) (x.2)) := fun x y h => zh zN mix (zo.cons (ze.of rfl (Jx k)) (zo.cons (ze.of rfl (jI k)) (zo.nil _))) Tryz.func143 (N := k) (an := YN) (by kernel_rfl) x y ((zdK k (qj k) (zD k) (x.1) (x.2)).trans h)
def X3 : Ann := uLf
def KH (k : Nat) (zF : (Bool × (List Int)) → (Bool × (List Int)) → Option (Bool × (List Int))) (Qg : (Bool × (List Int)) → (Bool × (List Int)) → Option (Bool × (List Int))) (a0 : (Bool × (List Int))) (a1 : (Bool × (List Int))) (a2 : (Bool × (List Int))) (a3 : (Bool × (List Int))) : Option (Bool × (List Int)) :=
 bnd (zF (a0.1, a0.2) (a3.1, a3.2)) fun r0 =>
 bnd (zF (a1.1, a1.2) (a2.1, a2.2)) fun r1 =>
 bnd (Qg (r0.1, r0.2) (r1.1, r1.2)) fun r2 =>
 some (r2.1, r2.2)
theorem zfk (k : Nat) (zF : (Bool × (List Int)) → (Bool × (List Int)) → Option (Bool × (List Int))) (Qg : (Bool × (List Int)) → (Bool × (List Int)) → Option (Bool × (List Int))) (a0 : (Bool × (List Int))) (a1 : (Bool × (List Int))) (a2 : (Bool × (List Int))) (a3 : (Bool × (List Int))) : zM [⟨103, [.d (.pair .bool (.sl kI)), .d (.pair .bool (.sl kI))], [.pair .bool (.sl kI)], fun x => zF (x.1) (x.2), none⟩, ⟨143, [.d (.pair .bool (.sl kI)), .d (.pair .bool (.sl kI))], [.pair .bool (.sl kI)], fun x => Qg (x.1) (x.2), none⟩] tb k Tryz.f100 X3 [.d (.pair .bool (.sl kI)), .d (.pair .bool (.sl kI)), .d (.pair .bool (.sl kI)), .d (.pair .bool (.sl kI))] [.pair .bool (.sl kI)] (a0, a1, a2, a3) = KH k zF Qg a0 a1 a2 a3 := by kernel_rfl
def je (k : Nat) (a0 : (Bool × (List Int))) (a1 : (Bool × (List Int))) (a2 : (Bool × (List Int))) (a3 : (Bool × (List Int))) : Option (Bool × (List Int)) := KH k (zJ k) (jC k) a0 a1 a2 a3
theorem zcC (k : Nat) : zv Tryz.prog 100 [.d (.pair .bool (.sl kI)), .d (.pair .bool (.sl kI)), .d (.pair .bool (.sl kI)), .d (.pair .bool (.sl kI))] [.pair .bool (.sl kI)] (fun x => je k (x.1) (x.2.1) (x.2.2.1) (x.2.2.2)) := fun x y h => zh zN mix (zo.cons (ze.of rfl (Zx k)) (zo.cons (ze.of rfl (zbn k)) (zo.nil _))) Tryz.func100 (N := k) (an := X3) (by kernel_rfl) x y ((zfk k (zJ k) (jC k) (x.1) (x.2.1) (x.2.2.1) (x.2.2.2)).trans h)
def Xo : Ann := uLf
def Ke (k : Nat) (z7 : Int → Option (Bool × (List Int))) (Zc : (Bool × (List Int)) → (Bool × (List Int)) → (Bool × (List Int)) → (Bool × (List Int)) → Option (Bool × (List Int))) (zz : (Bool × (List Int)) → (Bool × (List Int)) → Option (Bool × (List Int))) (a0 : PPt) (a1 : PPt) (a2 : PPt) : Option (Bool × (List Int)) :=
 bnd (z7 a0.1) fun r0 =>
 bnd (z7 a0.2) fun r1 =>
 bnd (z7 a1.1) fun r2 =>
 bnd (z7 a1.2) fun r3 =>
 bnd (Zc (r0.1, r0.2) (r1.1, r1.2) (r2.1, r2.2) (r3.1, r3.2)) fun r4 =>
 bnd (z7 a1.1) fun r5 =>
 bnd (z7 a1.2) fun r6 =>
 bnd (z7 a2.1) fun r7 =>
 bnd (z7 a2.2) fun r8 =>
 bnd (Zc (r5.1, r5.2) (r6.1, r6.2) (r7.1, r7.2) (r8.1, r8.2)) fun r9 =>
 bnd (zz (r4.1, r4.2) (r9.1, r9.2)) fun r10 =>
 bnd (z7 a2.1) fun r11 =>
 bnd (z7 a2.2) fun r12 =>
 bnd (z7 a0.1) fun r13 =>
 bnd (z7 a0.2) fun r14 =>
 bnd (Zc (r11.1, r11.2) (r12.1, r12.2) (r13.1, r13.2) (r14.1, r14.2)) fun r15 =>
 bnd (zz (r10.1, r10.2) (r15.1, r15.2)) fun r16 =>
 some (r16.1, r16.2)
theorem zd5 (k : Nat) (z7 : Int → Option (Bool × (List Int))) (Zc : (Bool × (List Int)) → (Bool × (List Int)) → (Bool × (List Int)) → (Bool × (List Int)) → Option (Bool × (List Int))) (zz : (Bool × (List Int)) → (Bool × (List Int)) → Option (Bool × (List Int))) (a0 : PPt) (a1 : PPt) (a2 : PPt) : zM [⟨101, [.d kI], [.pair .bool (.sl kI)], fun x => z7 x, none⟩, ⟨100, [.d (.pair .bool (.sl kI)), .d (.pair .bool (.sl kI)), .d (.pair .bool (.sl kI)), .d (.pair .bool (.sl kI))], [.pair .bool (.sl kI)], fun x => Zc (x.1) (x.2.1) (x.2.2.1) (x.2.2.2), none⟩, ⟨64, [.d (.pair .bool (.sl kI)), .d (.pair .bool (.sl kI))], [.pair .bool (.sl kI)], fun x => zz (x.1) (x.2), none⟩] tb k Tryz.f65 Xo [.d kPP, .d kPP, .d kPP] [.pair .bool (.sl kI)] (a0, a1, a2) = Ke k z7 Zc zz a0 a1 a2 := by kernel_rfl
def ZA (k : Nat) (a0 : PPt) (a1 : PPt) (a2 : PPt) : Option (Bool × (List Int)) := Ke k (ZP k) (je k) (zD k) a0 a1 a2
theorem zb6 (k : Nat) : zv Tryz.prog 65 [.d kPP, .d kPP, .d kPP] [.pair .bool (.sl kI)] (fun x => ZA k (x.1) (x.2.1) (x.2.2)) := fun x y h => zh zN mix (zo.cons (ze.of rfl (zcS k)) (zo.cons (ze.of rfl (zcC k)) (zo.cons (ze.of rfl (jI k)) (zo.nil _)))) Tryz.func65 (N := k) (an := Xo) (by kernel_rfl) x y ((zd5 k (ZP k) (je k) (zD k) (x.1) (x.2.1) (x.2.2)).trans h)
def Kw : Ann := uLf
def zW (k : Nat) (a0 : (Bool × (List Int))) : Option Int :=
 bif decide ((a0.2.length : Int) = 0) then
 some 0
 else
 bif a0.1 then
 some (-1)
 else
 some 1
theorem zbp (k : Nat) (a0 : (Bool × (List Int))) : zM [] tb k Tryz.f67 Kw [.d (.pair .bool (.sl kI))] [kI] a0 = zW k a0 := by kernel_rfl
theorem ZG (k : Nat) : zv Tryz.prog 67 [.d (.pair .bool (.sl kI))] [kI] (fun x => zW k x) := fun x y h => zh zN mix (zo.nil _) Tryz.func67 (N := k) (an := Kw) (by kernel_rfl) x y ((zbp k x).trans h)
def Ym : Ann := uNn uLf (uNn (uNn (.node (some [(3, .box [.d kPP]), (4, .box [.d kPP]), (5, .box [.d kPP]), (19, .d .bool)]) none uLf uLf) uLf) uLf)
def Jc (k : Nat) (zp : PPt → Option Bool) (QE : PPt → PPt → PPt → Option (Bool × (List Int))) (zR : (Bool × (List Int)) → Option Int) (a0 : PPt) (a1 : PPt) (a2 : PPt) : Option Int :=
 zy (α := (PPt × (PPt × (PPt × Bool)))) (fun (y0, y1, y2, y3) =>
 bif y3 then
 some 0
 else
 bnd (QE (y0.1, y0.2) (y1.1, y1.2) (y2.1, y2.2)) fun r4 =>
 bnd (zR (r4.1, r4.2)) fun r5 =>
 some r5) fun j6 =>
 bnd (zp (a0.1, a0.2)) fun r7 =>
 bif !r7 then
 j6 ((a0.1, a0.2), (a1.1, a1.2), (a2.1, a2.2), true)
 else
 bnd (zp (a1.1, a1.2)) fun r8 =>
 bif !r8 then
 j6 ((a0.1, a0.2), (a1.1, a1.2), (a2.1, a2.2), true)
 else
 bnd (zp (a2.1, a2.2)) fun r9 =>
 j6 ((a0.1, a0.2), (a1.1, a1.2), (a2.1, a2.2), !r9)
theorem zcL (k : Nat) (zp : PPt → Option Bool) (QE : PPt → PPt → PPt → Option (Bool × (List Int))) (zR : (Bool × (List Int)) → Option Int) (a0 : PPt) (a1 : PPt) (a2 : PPt) : zM [⟨72, [.d kPP], [.bool], fun x => zp x, none⟩, ⟨65, [.d kPP, .d kPP, .d kPP], [.pair .bool (.sl kI)], fun x => QE (x.1) (x.2.1) (x.2.2), none⟩, ⟨67, [.d (.pair .bool (.sl kI))], [kI], fun x => zR x, none⟩] tb k Tryz.f73 Ym [.d kPP, .d kPP, .d kPP] [kI] (a0, a1, a2) = Jc k zp QE zR a0 a1 a2 := by kernel_rfl
def z8 (k : Nat) (a0 : PPt) (a1 : PPt) (a2 : PPt) : Option Int := Jc k (zX k) (ZA k) (zW k) a0 a1 a2
theorem jZ (k : Nat) : zv Tryz.prog 73 [.d kPP, .d kPP, .d kPP] [kI] (fun x => z8 k (x.1) (x.2.1) (x.2.2)) := fun x y h => zh zN mix (zo.cons (ze.of rfl (jA k)) (zo.cons (ze.of rfl (zb6 k)) (zo.cons (ze.of rfl (ZG k)) (zo.nil _)))) Tryz.func73 (N := k) (an := Ym) (by kernel_rfl) x y ((zcL k (zX k) (ZA k) (zW k) (x.1) (x.2.1) (x.2.2)).trans h)
def XW : Ann := uNn uLf (uNn uLf (uNn (uNn (.node (some [(0, .d kLP), (1, .d kI), (2, .d kI), (3, .d kI), (8, .box [.d (.pair kI kPP)]), (56, .d .bool)]) none uLf uLf) uLf) (uNn uLf (uNn (uNn uLf (uNn (.node none (some [(0, .d kLP), (8, .box [.d (.pair kI kPP)]), (11, .row (.pair kI kPP) 56), (12, .d kI)]) (uNn uLf (uNn (uNn (uNn uLf (uNn (.node (some [(0, .d kLP), (8, .box [.d (.pair kI kPP)]), (11, .row (.pair kI kPP) 56), (12, .d kI), (13, .box [.d (.pair kI kPP)]), (121, .d .bool)]) none uLf uLf) uLf)) uLf) uLf)) uLf) uLf)) uLf))))
def KM (k : Nat) (zw : PPt → PPt → PPt → Option Int) (a0 : LPt) (a1 : Int) (a2 : Int) (a3 : Int) : Option ((Int × PPt) × Bool) :=
 zy (α := (LPt × (Int × (Int × (Int × ((Int × PPt) × Bool)))))) (fun (y0, y1, y2, y3, y4, y5) =>
 bif y5 then
 some ((0, 0, 0), false)
 else
 zx (α := (LPt × ((Int × PPt) × (LTr × Int)))) (fun (x7, x8, x9, x10) next6 =>
 bif decide (x10 < 6) then
 gd (inb x10 x9.length) <|
 zy (α := (LPt × ((Int × PPt) × (LTr × (Int × ((Int × PPt) × Bool)))))) (fun (y11, y12, y13, y14, y15, y16) =>
 bif y16 then
 some ((y15.1, y15.2.1, y15.2.2), true)
 else
 next6 (y11, (y12.1, y12.2.1, y12.2.2), y13, w64 (y14 + 1))) fun j17 =>
 bif decide ((rdD (0, 0, 0) x9 x10).1 < (rdD (0, 0, 0) x9 x10).2.1) then
 bif decide ((rdD (0, 0, 0) x9 x10).1 < (rdD (0, 0, 0) x9 x10).2.2) then
 gd (inb (rdD (0, 0, 0) x9 x10).1 x7.length) <|
 gd (inb (rdD (0, 0, 0) x9 x10).2.1 x7.length) <|
 gd (inb (rdD (0, 0, 0) x9 x10).2.2 x7.length) <|
 bnd (zw ((rdD (0, 0) x7 (rdD (0, 0, 0) x9 x10).1).1, (rdD (0, 0) x7 (rdD (0, 0, 0) x9 x10).1).2) ((rdD (0, 0) x7 (rdD (0, 0, 0) x9 x10).2.1).1, (rdD (0, 0) x7 (rdD (0, 0, 0) x9 x10).2.1).2) ((rdD (0, 0) x7 (rdD (0, 0, 0) x9 x10).2.2).1, (rdD (0, 0) x7 (rdD (0, 0, 0) x9 x10).2.2).2)) fun r18 =>
 j17 (x7, (x8.1, x8.2.1, x8.2.2), x9, x10, ((rdD (0, 0, 0) x9 x10).1, (rdD (0, 0, 0) x9 x10).2.1, (rdD (0, 0, 0) x9 x10).2.2), decide (r18 = 1))
 else
 j17 (x7, (x8.1, x8.2.1, x8.2.2), x9, x10, ((rdD (0, 0, 0) x9 x10).1, (rdD (0, 0, 0) x9 x10).2.1, (rdD (0, 0, 0) x9 x10).2.2), false)
 else
 j17 (x7, (x8.1, x8.2.1, x8.2.2), x9, x10, ((rdD (0, 0, 0) x9 x10).1, (rdD (0, 0, 0) x9 x10).2.1, (rdD (0, 0, 0) x9 x10).2.2), false)
 else
 some ((0, 0, 0), false)) k (y0, (y4.1, y4.2.1, y4.2.2), [(y1, y2, y3), (y2, y3, y1), (y3, y1, y2), (y1, y3, y2), (y3, y2, y1), (y2, y1, y3)], 0)) fun j19 =>
 bif decide (a1 < 0) then
 j19 (a0, a1, a2, a3, (0, 0, 0), true)
 else
 bif decide (a2 < 0) then
 j19 (a0, a1, a2, a3, (0, 0, 0), true)
 else
 bif decide (a3 < 0) then
 j19 (a0, a1, a2, a3, (0, 0, 0), true)
 else
 bif decide (a1 ≥ (a0.length : Int)) then
 j19 (a0, a1, a2, a3, (0, 0, 0), true)
 else
 bif decide (a2 ≥ (a0.length : Int)) then
 j19 (a0, a1, a2, a3, (0, 0, 0), true)
 else
 bif decide (a3 ≥ (a0.length : Int)) then
 j19 (a0, a1, a2, a3, (0, 0, 0), true)
 else
 gd (inb a1 a0.length) <|
 gd (inb a2 a0.length) <|
 gd (inb a3 a0.length) <|
 bnd (zw ((rdD (0, 0) a0 a1).1, (rdD (0, 0) a0 a1).2) ((rdD (0, 0) a0 a2).1, (rdD (0, 0) a0 a2).2) ((rdD (0, 0) a0 a3).1, (rdD (0, 0) a0 a3).2)) fun r20 =>
 j19 (a0, a1, a2, a3, (0, 0, 0), decide (r20 = 0))
theorem zff (k : Nat) (zw : PPt → PPt → PPt → Option Int) (a0 : LPt) (a1 : Int) (a2 : Int) (a3 : Int) : zM [⟨73, [.d kPP, .d kPP, .d kPP], [kI], fun x => zw (x.1) (x.2.1) (x.2.2), none⟩] tb k Tryz.f41 XW [.d kLP, .d kI, .d kI, .d kI] [.pair kI kPP, .bool] (a0, a1, a2, a3) = KM k zw a0 a1 a2 a3 := by kernel_rfl
def Ze (k : Nat) (a0 : LPt) (a1 : Int) (a2 : Int) (a3 : Int) : Option ((Int × PPt) × Bool) := KM k (z8 k) a0 a1 a2 a3
theorem zcI (k : Nat) : zv Tryz.prog 41 [.d kLP, .d kI, .d kI, .d kI] [.pair kI kPP, .bool] (fun x => Ze k (x.1) (x.2.1) (x.2.2.1) (x.2.2.2)) := fun x y h => zh zN mix (zo.cons (ze.of rfl (jZ k)) (zo.nil _)) Tryz.func41 (N := k) (an := XW) (by kernel_rfl) x y ((zff k (z8 k) (x.1) (x.2.1) (x.2.2.1) (x.2.2.2)).trans h)
def YR : Ann := uNn uLf (uNn uLf (uNn (uNn uLf (uNn (.node none (some [(0, .d (.sl (.pair kI kPP))), (3, .row (.sl kI) 49), (4, .d kI)]) uLf uLf) uLf)) uLf))
def jy (k : Nat) (a0 : LTr) : Option (List (List Int)) :=
 zx (α := (LTr × ((List (List Int)) × Int))) (fun (x1, x2, x3) next0 =>
 bif decide (x3 < (x1.length : Int)) then
 gd (inb x3 x1.length) <|
 gd (inb x3 x1.length) <|
 gd (inb x3 x1.length) <|
 gd (few (x2.length + 1)) <|
 next0 (x1, x2 ++ [[(rdD (0, 0, 0) x1 x3).1, (rdD (0, 0, 0) x1 x3).2.1, (rdD (0, 0, 0) x1 x3).2.2]], w64 (x3 + 1))
 else
 some x2) k (a0, [], 0)
theorem zdI (k : Nat) (a0 : LTr) : zM [] tb k Tryz.f31 YR [.d (.sl (.pair kI kPP))] [.sl (.sl kI)] a0 = jy k a0 := by kernel_rfl
theorem zbI (k : Nat) : zv Tryz.prog 31 [.d (.sl (.pair kI kPP))] [.sl (.sl kI)] (fun x => jy k x) := fun x y h => zh zN mix (zo.nil _) Tryz.func31 (N := k) (an := YR) (by kernel_rfl) x y ((zdI k x).trans h)
end
end Go.Proofs.YtpkkcjmblocjdaaGreat.AM
