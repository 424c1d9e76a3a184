/- The functions, by their texts: written by a program. -/
import Derived.Test.YtpkkcjmblocjdaaGreatGa5
import Derived.Test.YtpkkcjmblocjdaaGreatCln
set_option linter.unusedVariables false
set_option linter.unusedSimpArgs false
set_option linter.unusedSectionVars false
set_option maxRecDepth 100000
namespace Go.Proofs.YtpkkcjmblocjdaaGreat.AM
open Go.RowKit Go.Proofs
noncomputable section
def Yu : Ann := uLf
def qY (k : Nat) (a0 : (Int × PPt)) (a1 : (Int × PPt)) : Option Bool :=
 bif !(decide (a0.1 = a1.1)) then
 some (decide (a0.1 < a1.1))
 else
 bif !(decide (a0.2.1 = a1.2.1)) then
 some (decide (a0.2.1 < a1.2.1))
 else
 some (decide (a0.2.2 < a1.2.2))
theorem zcH (k : Nat) (a0 : (Int × PPt)) (a1 : (Int × PPt)) : zM [] tb k Tryz.f62 Yu [.d (.pair kI kPP), .d (.pair kI kPP)] [.bool] (a0, a1) = qY k a0 a1 := by kernel_rfl
theorem za3 (k : Nat) : zv Tryz.prog 62 [.d (.pair kI kPP), .d (.pair kI kPP)] [.bool] (fun x => qY k (x.1) (x.2)) := fun x y h => zh zN mix (zo.nil _) Tryz.func62 (N := k) (an := Yu) (by kernel_rfl) x y ((zcH k (x.1) (x.2)).trans h)
def YI : Ann := uLf
def qE (k : Nat) (a0 : (Int × PPt)) : Option LPt :=
 some [(a0.1, a0.2.1), (a0.2.1, a0.2.2), (a0.2.2, a0.1)]
theorem zdF (k : Nat) (a0 : (Int × PPt)) : zM [] tb k Tryz.f63 YI [.d (.pair kI kPP)] [.sl kPP] a0 = qE k a0 := by kernel_rfl
theorem Kn (k : Nat) : zv Tryz.prog 63 [.d (.pair kI kPP)] [.sl kPP] (fun x => qE k x) := fun x y h => zh zN mix (zo.nil _) Tryz.func63 (N := k) (an := YI) (by kernel_rfl) x y ((zdF k x).trans h)
def XB : Ann := uNn uLf (uNn (uNn uLf (uNn (.node none (some [(0, .d (.sl (.pair kI kPP))), (1, .d kI), (2, .d kI), (7, .d kI)]) (uNn uLf (uNn (uNn (uNn uLf (uNn uLf (uNn (.node none (some [(0, .d (.sl (.pair kI kPP))), (1, .d kI), (2, .d kI), (7, .d kI), (8, .d kLP), (9, .d kI)]) (uNn uLf (uNn (uNn (uNn (.node (some [(0, .d (.sl (.pair kI kPP))), (1, .d kI), (2, .d kI), (7, .d kI), (8, .d kLP), (9, .d kI), (40, .d .bool)]) none uLf uLf) uLf) uLf) uLf)) uLf) uLf))) uLf) uLf)) uLf) uLf)) uLf)
def Kf (k : Nat) (qF : (Int × PPt) → Option LPt) (a0 : LTr) (a1 : Int) (a2 : Int) : Option Int :=
 zx (α := (LTr × (Int × PPt))) (fun (x1, x2, x3, x4) next0 =>
 bif decide (x4 < (x1.length : Int)) then
 gd (inb x4 x1.length) <|
 bnd (qF ((rdD (0, 0, 0) x1 x4).1, (rdD (0, 0, 0) x1 x4).2.1, (rdD (0, 0, 0) x1 x4).2.2)) fun r5 =>
 zx (α := (LTr × (Int × (Int × (Int × (LPt × Int)))))) (fun (x7, x8, x9, x10, x11, x12) next6 =>
 bif decide (x12 < 3) then
 zy (α := (LTr × (Int × (Int × (Int × (LPt × (Int × Bool))))))) (fun (y13, y14, y15, y16, y17, y18, y19) =>
 bif y19 then
 some y16
 else
 next6 (y13, y14, y15, y16, y17, w64 (y18 + 1))) fun j20 =>
 gd (inb x12 x11.length) <|
 bif decide ((rdD (0, 0) x11 x12).1 = x8) then
 gd (inb x12 x11.length) <|
 j20 (x7, x8, x9, x10, x11, x12, decide ((rdD (0, 0) x11 x12).2 = x9))
 else
 j20 (x7, x8, x9, x10, x11, x12, false)
 else
 next0 (x7, x8, x9, w64 (x10 + 1))) k (x1, x2, x3, x4, r5, 0)
 else
 some (-1)) k (a0, a1, a2, 0)
theorem zep (k : Nat) (qF : (Int × PPt) → Option LPt) (a0 : LTr) (a1 : Int) (a2 : Int) : zM [⟨63, [.d (.pair kI kPP)], [.sl kPP], fun x => qF x, none⟩] tb k Tryz.f29 XB [.d (.sl (.pair kI kPP)), .d kI, .d kI] [kI] (a0, a1, a2) = Kf k qF a0 a1 a2 := by kernel_rfl
def qe (k : Nat) (a0 : LTr) (a1 : Int) (a2 : Int) : Option Int := Kf k (qE k) a0 a1 a2
theorem zbR (k : Nat) : zv Tryz.prog 29 [.d (.sl (.pair kI kPP)), .d kI, .d kI] [kI] (fun x => qe k (x.1) (x.2.1) (x.2.2)) := fun x y h => zh zN mix (zo.cons (ze.of rfl (Kn k)) (zo.nil _)) Tryz.func29 (N := k) (an := XB) (by kernel_rfl) x y ((zep k (qE k) (x.1) (x.2.1) (x.2.2)).trans h)
def X1 : Ann := uNn uLf (uNn (uNn uLf (uNn (.node none (some [(0, .d kLP), (1, .d kI), (2, .d kI), (7, .d kI)]) (uNn uLf (uNn (uNn (uNn (.node (some [(0, .d kLP), (1, .d kI), (2, .d kI), (7, .d kI), (47, .d .bool)]) none uLf uLf) uLf) uLf) uLf)) uLf) uLf)) uLf)
def jc (k : Nat) (a0 : LPt) (a1 : Int) (a2 : Int) : Option Bool :=
 zx (α := (LPt × (Int × PPt))) (fun (x1, x2, x3, x4) next0 =>
 bif decide (x4 < (x1.length : Int)) then
 zy (α := (LPt × (Int × (Int × (Int × Bool))))) (fun (y5, y6, y7, y8, y9) =>
 bif y9 then
 some true
 else
 next0 (y5, y6, y7, w64 (y8 + 1))) fun j10 =>
 gd (inb x4 x1.length) <|
 bif decide ((rdD (0, 0) x1 x4).1 = x2) then
 gd (inb x4 x1.length) <|
 bif decide ((rdD (0, 0) x1 x4).2 = x3) then
 j10 (x1, x2, x3, x4, true)
 else
 gd (inb x4 x1.length) <|
 bif decide ((rdD (0, 0) x1 x4).1 = x3) then
 gd (inb x4 x1.length) <|
 j10 (x1, x2, x3, x4, decide ((rdD (0, 0) x1 x4).2 = x2))
 else
 j10 (x1, x2, x3, x4, false)
 else
 gd (inb x4 x1.length) <|
 bif decide ((rdD (0, 0) x1 x4).1 = x3) then
 gd (inb x4 x1.length) <|
 j10 (x1, x2, x3, x4, decide ((rdD (0, 0) x1 x4).2 = x2))
 else
 j10 (x1, x2, x3, x4, false)
 else
 some false) k (a0, a1, a2, 0)
theorem zfi (k : Nat) (a0 : LPt) (a1 : Int) (a2 : Int) : zM [] tb k Tryz.f28 X1 [.d kLP, .d kI, .d kI] [.bool] (a0, a1, a2) = jc k a0 a1 a2 := by kernel_rfl
theorem zcE (k : Nat) : zv Tryz.prog 28 [.d kLP, .d kI, .d kI] [.bool] (fun x => jc k (x.1) (x.2.1) (x.2.2)) := fun x y h => zh zN mix (zo.nil _) Tryz.func28 (N := k) (an := X1) (by kernel_rfl) x y ((zfi k (x.1) (x.2.1) (x.2.2)).trans h)
def YK : Ann := uNn uLf (uNn (uNn uLf (uNn (.node none (some [(1, .box [.d (.pair kLP (.pair (.sl (.pair kI kPP)) kLP))]), (3, .d kI)]) (uNn uLf (uNn (uNn (uNn uLf (uNn (uNn (.node (some [(1, .box [.d (.pair kLP (.pair (.sl (.pair kI kPP)) kLP))]), (3, .d kI), (4, .box [.d (.pair kI kPP)]), (66, .d .bool)]) none uLf uLf) uLf) (uNn uLf (uNn uLf (uNn (.node none (some [(1, .box [.d (.pair kLP (.pair (.sl (.pair kI kPP)) kLP))]), (3, .d kI), (6, .d kLP), (7, .d kI)]) (uNn uLf (uNn (uNn (uNn uLf (uNn (.node (some [(1, .box [.d (.pair kLP (.pair (.sl (.pair kI kPP)) kLP))]), (3, .d kI), (6, .d kLP), (7, .d kI), (117, .d .bool)]) none uLf uLf) uLf)) uLf) uLf)) uLf) uLf))))) uLf) uLf)) uLf) uLf)) (uNn (uNn uLf (uNn (.node none (some [(1, .box [.d (.pair kLP (.pair (.sl (.pair kI kPP)) kLP))]), (8, .d kI)]) (uNn uLf (uNn (uNn (uNn uLf (uNn (uNn (.node (some [(1, .box [.d (.pair kLP (.pair (.sl (.pair kI kPP)) kLP))]), (8, .d kI), (9, .box [.d kPP]), (174, .d .bool)]) none uLf uLf) uLf) (uNn (.node (some [(1, .box [.d (.pair kLP (.pair (.sl (.pair kI kPP)) kLP))]), (8, .d kI), (192, .d .bool)]) none uLf uLf) uLf))) uLf) uLf)) uLf) uLf)) uLf))
def Jy (k : Nat) (QS : LPt → Int → Int → Int → Option ((Int × PPt) × Bool)) (ZY : (Int × PPt) → (Int × PPt) → Option Bool) (qF : (Int × PPt) → Option LPt) (jl : LTr → Int → Int → Option Int) (QX : LPt → Int → Int → Option Bool) (a0 : TMs) : Option Int :=
 zx (α := (TMs × Int)) (fun (x1, x2) next0 =>
 bif decide (x2 < (x1.2.1.length : Int)) then
 gd (inb x2 x1.2.1.length) <|
 gd (inb x2 x1.2.1.length) <|
 gd (inb x2 x1.2.1.length) <|
 bnd (QS x1.1 (rdD (0, 0, 0) x1.2.1 x2).1 (rdD (0, 0, 0) x1.2.1 x2).2.1 (rdD (0, 0, 0) x1.2.1 x2).2.2) fun r3 =>
 zy (α := (TMs × (Int × ((Int × PPt) × Bool)))) (fun (y4, y5, y6, y7) =>
 bif y7 then
 some 2
 else
 bnd (qF (y6.1, y6.2.1, y6.2.2)) fun r8 =>
 zx (α := (TMs × (Int × (LPt × Int)))) (fun (x10, x11, x12, x13) next9 =>
 bif decide (x13 < 3) then
 gd (inb x13 x12.length) <|
 gd (inb x13 x12.length) <|
 bnd (jl x10.2.1 (rdD (0, 0) x12 x13).1 (rdD (0, 0) x12 x13).2) fun r14 =>
 bif !(decide (r14 = x11)) then
 some 2
 else
 zy (α := (TMs × (Int × (LPt × (Int × Bool))))) (fun (y15, y16, y17, y18, y19) =>
 bif y19 then
 some 2
 else
 next9 ((y15.1, y15.2.1, y15.2.2), y16, y17, w64 (y18 + 1))) fun j20 =>
 gd (inb x13 x12.length) <|
 gd (inb x13 x12.length) <|
 bnd (jl x10.2.1 (rdD (0, 0) x12 x13).2 (rdD (0, 0) x12 x13).1) fun r21 =>
 bif decide (r21 < 0) then
 gd (inb x13 x12.length) <|
 gd (inb x13 x12.length) <|
 bnd (QX x10.2.2 (rdD (0, 0) x12 x13).1 (rdD (0, 0) x12 x13).2) fun r22 =>
 j20 ((x10.1, x10.2.1, x10.2.2), x11, x12, x13, !r22)
 else
 j20 ((x10.1, x10.2.1, x10.2.2), x11, x12, x13, false)
 else
 next0 ((x10.1, x10.2.1, x10.2.2), w64 (x11 + 1))) k ((y4.1, y4.2.1, y4.2.2), y5, r8, 0)) fun j23 =>
 bif !r3.2 then
 j23 ((x1.1, x1.2.1, x1.2.2), x2, (r3.1.1, r3.1.2.1, r3.1.2.2), true)
 else
 gd (inb x2 x1.2.1.length) <|
 bif !((decide (r3.1.1 = (rdD (0, 0, 0) x1.2.1 x2).1)) && ((decide (r3.1.2.1 = (rdD (0, 0, 0) x1.2.1 x2).2.1)) && (decide (r3.1.2.2 = (rdD (0, 0, 0) x1.2.1 x2).2.2)))) then
 j23 ((x1.1, x1.2.1, x1.2.2), x2, (r3.1.1, r3.1.2.1, r3.1.2.2), true)
 else
 bif decide (x2 > 0) then
 gd (inb (w64 (x2 - 1)) x1.2.1.length) <|
 bnd (ZY ((rdD (0, 0, 0) x1.2.1 (w64 (x2 - 1))).1, (rdD (0, 0, 0) x1.2.1 (w64 (x2 - 1))).2.1, (rdD (0, 0, 0) x1.2.1 (w64 (x2 - 1))).2.2) (r3.1.1, r3.1.2.1, r3.1.2.2)) fun r24 =>
 j23 ((x1.1, x1.2.1, x1.2.2), x2, (r3.1.1, r3.1.2.1, r3.1.2.2), !r24)
 else
 j23 ((x1.1, x1.2.1, x1.2.2), x2, (r3.1.1, r3.1.2.1, r3.1.2.2), false)
 else
 zx (α := (TMs × Int)) (fun (x26, x27) next25 =>
 bif decide (x27 < (x26.2.2.length : Int)) then
 gd (inb x27 x26.2.2.length) <|
 zy (α := (TMs × (Int × (PPt × Bool)))) (fun (y28, y29, y30, y31) =>
 bif y31 then
 some 2
 else
 zy (α := (TMs × (Int × Bool))) (fun (y32, y33, y34) =>
 bif y34 then
 some 2
 else
 next25 ((y32.1, y32.2.1, y32.2.2), w64 (y33 + 1))) fun j35 =>
 bnd (jl y28.2.1 y30.1 y30.2) fun r36 =>
 bif decide (r36 < 0) then
 bnd (jl y28.2.1 y30.2 y30.1) fun r37 =>
 j35 ((y28.1, y28.2.1, y28.2.2), y29, decide (r37 < 0))
 else
 j35 ((y28.1, y28.2.1, y28.2.2), y29, false)) fun j38 =>
 bif decide ((rdD (0, 0) x26.2.2 x27).1 ≥ (rdD (0, 0) x26.2.2 x27).2) then
 j38 ((x26.1, x26.2.1, x26.2.2), x27, ((rdD (0, 0) x26.2.2 x27).1, (rdD (0, 0) x26.2.2 x27).2), true)
 else
 bif decide (x27 > 0) then
 gd (inb (w64 (x27 - 1)) x26.2.2.length) <|
 bif decide ((rdD (0, 0) x26.2.2 (w64 (x27 - 1))).1 > (rdD (0, 0) x26.2.2 x27).1) then
 j38 ((x26.1, x26.2.1, x26.2.2), x27, ((rdD (0, 0) x26.2.2 x27).1, (rdD (0, 0) x26.2.2 x27).2), true)
 else
 gd (inb (w64 (x27 - 1)) x26.2.2.length) <|
 bif decide ((rdD (0, 0) x26.2.2 (w64 (x27 - 1))).1 = (rdD (0, 0) x26.2.2 x27).1) then
 gd (inb (w64 (x27 - 1)) x26.2.2.length) <|
 j38 ((x26.1, x26.2.1, x26.2.2), x27, ((rdD (0, 0) x26.2.2 x27).1, (rdD (0, 0) x26.2.2 x27).2), decide ((rdD (0, 0) x26.2.2 (w64 (x27 - 1))).2 ≥ (rdD (0, 0) x26.2.2 x27).2))
 else
 j38 ((x26.1, x26.2.1, x26.2.2), x27, ((rdD (0, 0) x26.2.2 x27).1, (rdD (0, 0) x26.2.2 x27).2), false)
 else
 j38 ((x26.1, x26.2.1, x26.2.2), x27, ((rdD (0, 0) x26.2.2 x27).1, (rdD (0, 0) x26.2.2 x27).2), false)
 else
 some 0) k ((x1.1, x1.2.1, x1.2.2), 0)) k ((a0.1, a0.2.1, a0.2.2), 0)
theorem zdw (k : Nat) (QS : LPt → Int → Int → Int → Option ((Int × PPt) × Bool)) (ZY : (Int × PPt) → (Int × PPt) → Option Bool) (qF : (Int × PPt) → Option LPt) (jl : LTr → Int → Int → Option Int) (QX : LPt → Int → Int → Option Bool) (a0 : TMs) : zM [⟨41, [.d kLP, .d kI, .d kI, .d kI], [.pair kI kPP, .bool], fun x => QS (x.1) (x.2.1) (x.2.2.1) (x.2.2.2), none⟩, ⟨62, [.d (.pair kI kPP), .d (.pair kI kPP)], [.bool], fun x => ZY (x.1) (x.2), none⟩, ⟨63, [.d (.pair kI kPP)], [.sl kPP], fun x => qF x, none⟩, ⟨29, [.d (.sl (.pair kI kPP)), .d kI, .d kI], [kI], fun x => jl (x.1) (x.2.1) (x.2.2), none⟩, ⟨28, [.d kLP, .d kI, .d kI], [.bool], fun x => QX (x.1) (x.2.1) (x.2.2), none⟩] tb k Tryz.f22 YK [.d (.pair kLP (.pair (.sl (.pair kI kPP)) kLP))] [kI] a0 = Jy k QS ZY qF jl QX a0 := by kernel_rfl
def jG (k : Nat) (a0 : TMs) : Option Int := Jy k (Ze k) (qY k) (qE k) (qe k) (jc k) a0
theorem zbH (k : Nat) : zv Tryz.prog 22 [.d (.pair kLP (.pair (.sl (.pair kI kPP)) kLP))] [kI] (fun x => jG k x) := fun x y h => zh zN mix (zo.cons (ze.of rfl (zcI k)) (zo.cons (ze.of rfl (za3 k)) (zo.cons (ze.of rfl (Kn k)) (zo.cons (ze.of rfl (zbR k)) (zo.cons (ze.of rfl (zcE k)) (zo.nil _)))))) Tryz.func22 (N := k) (an := YK) (by kernel_rfl) x y ((zdw k (Ze k) (qY k) (qE k) (qe k) (jc k) x).trans h)
def JN : Ann := uNn uLf (uNn uLf (uNn (uNn uLf (uNn (.node none (some [(0, .d kLP), (1, .d kLP), (5, .d kI)]) uLf uLf) uLf)) uLf))
def qT (k : Nat) (a0 : LPt) (a1 : LPt) : Option Bool :=
 bif !(decide ((a0.length : Int) = (a1.length : Int))) then
 some false
 else
 zx (α := (LPt × (LPt × Int))) (fun (x1, x2, x3) next0 =>
 bif decide (x3 < (x1.length : Int)) then
 gd (inb x3 x1.length) <|
 gd (inb x3 x2.length) <|
 bif !((decide ((rdD (0, 0) x1 x3).1 = (rdD (0, 0) x2 x3).1)) && (decide ((rdD (0, 0) x1 x3).2 = (rdD (0, 0) x2 x3).2))) then
 some false
 else
 next0 (x1, x2, w64 (x3 + 1))
 else
 some true) k (a0, a1, 0)
theorem zaQ (k : Nat) (a0 : LPt) (a1 : LPt) : zM [] tb k Tryz.f23 JN [.d kLP, .d kLP] [.bool] (a0, a1) = qT k a0 a1 := by kernel_rfl
theorem Xq (k : Nat) : zv Tryz.prog 23 [.d kLP, .d kLP] [.bool] (fun x => qT k (x.1) (x.2)) := fun x y h => zh zN mix (zo.nil _) Tryz.func23 (N := k) (an := JN) (by kernel_rfl) x y ((zaQ k (x.1) (x.2)).trans h)
def Xv : Ann := uNn uLf (uNn (.node (some [(2, .d .bool)]) none uLf uLf) uLf)
def jk (k : Nat) (a0 : TPl) : Option Bool :=
 zy (α := Bool) (fun y0 =>
 some y0) fun j1 =>
 bif decide ((a0.1.length : Int) > 24) then
 bif decide ((a0.1.length : Int) ≤ 200) then
 j1 true
 else
 bif decide ((a0.2.1.length : Int) > 60) then
 bif decide ((a0.2.1.length : Int) ≤ 400) then
 j1 true
 else
 bif decide ((a0.2.2.length : Int) > 60) then
 bif decide ((a0.2.2.length : Int) ≤ 400) then
 j1 true
 else
 bif decide ((a0.1.length : Int) > 300) then
 j1 true
 else
 bif decide ((a0.2.1.length : Int) > 500) then
 j1 true
 else
 j1 (decide ((a0.2.2.length : Int) > 500))
 else
 bif decide ((a0.1.length : Int) > 300) then
 j1 true
 else
 bif decide ((a0.2.1.length : Int) > 500) then
 j1 true
 else
 j1 (decide ((a0.2.2.length : Int) > 500))
 else
 bif decide ((a0.2.2.length : Int) > 60) then
 bif decide ((a0.2.2.length : Int) ≤ 400) then
 j1 true
 else
 bif decide ((a0.1.length : Int) > 300) then
 j1 true
 else
 bif decide ((a0.2.1.length : Int) > 500) then
 j1 true
 else
 j1 (decide ((a0.2.2.length : Int) > 500))
 else
 bif decide ((a0.1.length : Int) > 300) then
 j1 true
 else
 bif decide ((a0.2.1.length : Int) > 500) then
 j1 true
 else
 j1 (decide ((a0.2.2.length : Int) > 500))
 else
 bif decide ((a0.2.1.length : Int) > 60) then
 bif decide ((a0.2.1.length : Int) ≤ 400) then
 j1 true
 else
 bif decide ((a0.2.2.length : Int) > 60) then
 bif decide ((a0.2.2.length : Int) ≤ 400) then
 j1 true
 else
 bif decide ((a0.1.length : Int) > 300) then
 j1 true
 else
 bif decide ((a0.2.1.length : Int) > 500) then
 j1 true
 else
 j1 (decide ((a0.2.2.length : Int) > 500))
 else
 bif decide ((a0.1.length : Int) > 300) then
 j1 true
 else
 bif decide ((a0.2.1.length : Int) > 500) then
 j1 true
 else
 j1 (decide ((a0.2.2.length : Int) > 500))
 else
 bif decide ((a0.2.2.length : Int) > 60) then
 bif decide ((a0.2.2.length : Int) ≤ 400) then
 j1 true
 else
 bif decide ((a0.1.length : Int) > 300) then
 j1 true
 else
 bif decide ((a0.2.1.length : Int) > 500) then
 j1 true
 else
 j1 (decide ((a0.2.2.length : Int) > 500))
 else
 bif decide ((a0.1.length : Int) > 300) then
 j1 true
 else
 bif decide ((a0.2.1.length : Int) > 500) then
 j1 true
 else
 j1 (decide ((a0.2.2.length : Int) > 500))
theorem zer (k : Nat) (a0 : TPl) : zM [] tb k Tryz.f10 Xv [.d kPl] [.bool] a0 = jk k a0 := by kernel_rfl
theorem zb3 (k : Nat) : zv Tryz.prog 10 [.d kPl] [.bool] (fun x => jk k x) := fun x y h => zh zN mix (zo.nil _) Tryz.func10 (N := k) (an := Xv) (by kernel_rfl) x y ((zer k x).trans h)
def YA : Ann := uNn uLf (uNn uLf (uNn (uNn (.node (some [(1, .box [.d kPl]), (3, .d kI), (23, .d .bool)]) none uLf uLf) uLf) (uNn (uNn uLf (uNn (.node none (some [(1, .box [.d kPl]), (3, .d kI), (4, .d kI)]) (uNn uLf (uNn (uNn (uNn (.node (some [(1, .box [.d kPl]), (3, .d kI), (4, .d kI), (62, .d .bool)]) none uLf uLf) uLf) uLf) uLf)) uLf) uLf)) (uNn (uNn uLf (uNn (.node none (some [(1, .box [.d kPl]), (3, .d kI), (5, .d kI)]) (uNn uLf (uNn (uNn (uNn uLf (uNn (uNn uLf (.node (some [(1, .box [.d kPl]), (3, .d kI), (5, .d kI), (6, .box [.d kPP])]) none uLf uLf)) (uNn (.node (some [(1, .box [.d kPl]), (3, .d kI), (5, .d kI), (113, .d .bool)]) none uLf uLf) uLf))) uLf) uLf)) uLf) uLf)) uLf))))
def qR (k : Nat) (a0 : TPl) : Option Int :=
 zy (α := (TPl × (Int × Bool))) (fun (y0, y1, y2) =>
 bif y2 then
 some 2
 else
 zx (α := (TPl × PPt)) (fun (x4, x5, x6) next3 =>
 bif decide (x6 < x5) then
 zy (α := (TPl × (Int × (Int × Bool)))) (fun (y7, y8, y9, y10) =>
 bif y10 then
 some 2
 else
 next3 ((y7.1, y7.2.1, y7.2.2), y8, w64 (y9 + 1))) fun j11 =>
 gd (inb x6 x4.1.length) <|
 bif decide ((rdD (0, 0) x4.1 x6).1 > 1048576) then
 j11 ((x4.1, x4.2.1, x4.2.2), x5, x6, true)
 else
 gd (inb x6 x4.1.length) <|
 bif decide ((rdD (0, 0) x4.1 x6).1 < (-1048576)) then
 j11 ((x4.1, x4.2.1, x4.2.2), x5, x6, true)
 else
 gd (inb x6 x4.1.length) <|
 bif decide ((rdD (0, 0) x4.1 x6).2 > 1048576) then
 j11 ((x4.1, x4.2.1, x4.2.2), x5, x6, true)
 else
 gd (inb x6 x4.1.length) <|
 j11 ((x4.1, x4.2.1, x4.2.2), x5, x6, decide ((rdD (0, 0) x4.1 x6).2 < (-1048576)))
 else
 zx (α := (TPl × PPt)) (fun (x13, x14, x15) next12 =>
 bif decide (x15 < (w64 ((x13.2.1.length : Int) + (x13.2.2.length : Int)))) then
 zy (α := (TPl × (Int × (Int × PPt)))) (fun (y16, y17, y18, y19, y20) =>
 zy (α := (TPl × (Int × (Int × Bool)))) (fun (y21, y22, y23, y24) =>
 bif y24 then
 some 2
 else
 next12 ((y21.1, y21.2.1, y21.2.2), y22, w64 (y23 + 1))) fun j25 =>
 bif decide (y19 < 0) then
 j25 ((y16.1, y16.2.1, y16.2.2), y17, y18, true)
 else
 bif decide (y19 ≥ y17) then
 j25 ((y16.1, y16.2.1, y16.2.2), y17, y18, true)
 else
 bif decide (y20 < 0) then
 j25 ((y16.1, y16.2.1, y16.2.2), y17, y18, true)
 else
 j25 ((y16.1, y16.2.1, y16.2.2), y17, y18, decide (y20 ≥ y17))) fun j26 =>
 bif decide (x15 < (x13.2.1.length : Int)) then
 gd (inb x15 x13.2.1.length) <|
 j26 ((x13.1, x13.2.1, x13.2.2), x14, x15, (rdD (0, 0) x13.2.1 x15).1, (rdD (0, 0) x13.2.1 x15).2)
 else
 gd (inb (w64 (x15 - (x13.2.1.length : Int))) x13.2.2.length) <|
 j26 ((x13.1, x13.2.1, x13.2.2), x14, x15, (rdD (0, 0) x13.2.2 (w64 (x15 - (x13.2.1.length : Int)))).1, (rdD (0, 0) x13.2.2 (w64 (x15 - (x13.2.1.length : Int)))).2)
 else
 some 0) k ((x4.1, x4.2.1, x4.2.2), x5, 0)) k ((y0.1, y0.2.1, y0.2.2), y1, 0)) fun j27 =>
 bif decide ((a0.1.length : Int) > 200) then
 j27 ((a0.1, a0.2.1, a0.2.2), (a0.1.length : Int), true)
 else
 bif decide ((a0.2.1.length : Int) > 400) then
 j27 ((a0.1, a0.2.1, a0.2.2), (a0.1.length : Int), true)
 else
 j27 ((a0.1, a0.2.1, a0.2.2), (a0.1.length : Int), decide ((a0.2.2.length : Int) > 400))
theorem zdE (k : Nat) (a0 : TPl) : zM [] tb k Tryz.f94 YA [.d kPl] [kI] a0 = qR k a0 := by kernel_rfl
theorem zbl (k : Nat) : zv Tryz.prog 94 [.d kPl] [kI] (fun x => qR k x) := fun x y h => zh zN mix (zo.nil _) Tryz.func94 (N := k) (an := YA) (by kernel_rfl) x y ((zdE k x).trans h)
def XX : Ann := uLf
def qG (k : Nat) (a0 : TPl) : Option LPt :=
 gd (few a0.2.1.length) <|
 gd (few (a0.2.1.length + a0.2.2.length)) <|
 some (a0.2.1 ++ a0.2.2)
theorem zfb (k : Nat) (a0 : TPl) : zM [] tb k Tryz.f27 XX [.d kPl] [.sl kPP] a0 = qG k a0 := by kernel_rfl
theorem Yq (k : Nat) : zv Tryz.prog 27 [.d kPl] [.sl kPP] (fun x => qG k x) := fun x y h => zh zN mix (zo.nil _) Tryz.func27 (N := k) (an := XX) (by kernel_rfl) x y ((zfb k x).trans h)
def zaA : Ann := uNn uLf (uNn uLf (uNn (.node (some [(6, .d .bool)]) none uLf uLf) uLf))
def Ya (k : Nat) (zG : Int → Option (Bool × (List Int))) (zF : (Bool × (List Int)) → (Bool × (List Int)) → Option (Bool × (List Int))) (zz : (Bool × (List Int)) → (Bool × (List Int)) → Option (Bool × (List Int))) (zp : PPt → Option Bool) (zw : PPt → PPt → PPt → Option Int) (zR : (Bool × (List Int)) → Option Int) (a0 : PPt) (a1 : PPt) (a2 : PPt) : Option Bool :=
 bnd (zG (w64 (a2.1 - a0.1))) fun r0 =>
 bnd (zG (w64 (a1.1 - a2.1))) fun r1 =>
 bnd (zF (r0.1, r0.2) (r1.1, r1.2)) fun r2 =>
 bnd (zG (w64 (a2.2 - a0.2))) fun r3 =>
 bnd (zG (w64 (a1.2 - a2.2))) fun r4 =>
 bnd (zF (r3.1, r3.2) (r4.1, r4.2)) fun r5 =>
 bnd (zz (r2.1, r2.2) (r5.1, r5.2)) fun r6 =>
 zy (α := Bool) (fun y7 =>
 some y7) fun j8 =>
 bif !((decide (a0.1 = a1.1)) && (decide (a0.2 = a1.2))) then
 bnd (zp (a0.1, a0.2)) fun r9 =>
 bif r9 then
 bnd (zp (a1.1, a1.2)) fun r10 =>
 bif r10 then
 bnd (zp (a2.1, a2.2)) fun r11 =>
 bif r11 then
 bnd (zw (a0.1, a0.2) (a1.1, a1.2) (a2.1, a2.2)) fun r12 =>
 bif decide (r12 = 0) then
 bnd (zR (r6.1, r6.2)) fun r13 =>
 j8 (decide (r13 ≥ 0))
 else
 j8 false
 else
 j8 false
 else
 j8 false
 else
 j8 false
 else
 j8 false
theorem zfJ (k : Nat) (zG : Int → Option (Bool × (List Int))) (zF : (Bool × (List Int)) → (Bool × (List Int)) → Option (Bool × (List Int))) (zz : (Bool × (List Int)) → (Bool × (List Int)) → Option (Bool × (List Int))) (zp : PPt → Option Bool) (zw : PPt → PPt → PPt → Option Int) (zR : (Bool × (List Int)) → Option Int) (a0 : PPt) (a1 : PPt) (a2 : PPt) : zM [⟨102, [.d kI], [.pair .bool (.sl kI)], fun x => zG x, none⟩, ⟨103, [.d (.pair .bool (.sl kI)), .d (.pair .bool (.sl kI))], [.pair .bool (.sl kI)], fun x => zF (x.1) (x.2), none⟩, ⟨64, [.d (.pair .bool (.sl kI)), .d (.pair .bool (.sl kI))], [.pair .bool (.sl kI)], fun x => zz (x.1) (x.2), none⟩, ⟨72, [.d kPP], [.bool], fun x => zp x, none⟩, ⟨73, [.d kPP, .d kPP, .d kPP], [kI], fun x => zw (x.1) (x.2.1) (x.2.2), none⟩, ⟨67, [.d (.pair .bool (.sl kI))], [kI], fun x => zR x, none⟩] tb k Tryz.f74 zaA [.d kPP, .d kPP, .d kPP] [.bool] (a0, a1, a2) = Ya k zG zF zz zp zw zR a0 a1 a2 := by kernel_rfl
def q8 (k : Nat) (a0 : PPt) (a1 : PPt) (a2 : PPt) : Option Bool := Ya k (zI k) (zJ k) (zD k) (zX k) (z8 k) (zW k) a0 a1 a2
theorem Je (k : Nat) : zv Tryz.prog 74 [.d kPP, .d kPP, .d kPP] [.bool] (fun x => q8 k (x.1) (x.2.1) (x.2.2)) := fun x y h => zh zN mix (zo.cons (ze.of rfl (QA k)) (zo.cons (ze.of rfl (Zx k)) (zo.cons (ze.of rfl (jI k)) (zo.cons (ze.of rfl (jA k)) (zo.cons (ze.of rfl (jZ k)) (zo.cons (ze.of rfl (ZG k)) (zo.nil _))))))) Tryz.func74 (N := k) (an := zaA) (by kernel_rfl) x y ((zfJ k (zI k) (zJ k) (zD k) (zX k) (z8 k) (zW k) (x.1) (x.2.1) (x.2.2)).trans h)
def Xs : Ann := uNn uLf (uNn (uNn (.node (some [(4, .box [.d kPP]), (5, .box [.d kPP]), (6, .box [.d kPP]), (7, .box [.d kPP]), (40, .d .bool)]) none uLf uLf) uLf) (uNn uLf (uNn uLf (uNn (uNn (.node (some [(4, .box [.d kPP]), (5, .box [.d kPP]), (6, .box [.d kPP]), (7, .box [.d kPP]), (10, .d kI), (11, .d kI), (54, .d .bool)]) none uLf uLf) (uNn (uNn uLf (uNn (uNn uLf (.node (some [(4, .box [.d kPP]), (5, .box [.d kPP]), (6, .box [.d kPP]), (7, .box [.d kPP]), (12, .d kI)]) none uLf uLf)) (uNn (uNn uLf (.node (some [(4, .box [.d kPP]), (5, .box [.d kPP]), (6, .box [.d kPP]), (7, .box [.d kPP]), (12, .d kI)]) none uLf uLf)) (uNn (uNn (.node (some [(5, .box [.d kPP]), (6, .box [.d kPP]), (7, .box [.d kPP]), (12, .d kI), (80, .d .bool)]) none uLf uLf) (.node (some [(5, .box [.d kPP]), (6, .box [.d kPP]), (7, .box [.d kPP]), (12, .d kI)]) none uLf uLf)) (uNn (uNn (.node (some [(12, .d kI), (96, .d .bool)]) none uLf uLf) (.node (some [(12, .d kI)]) none uLf uLf)) uLf))))) uLf)) (uNn (uNn (.node (some [(4, .box [.d kPP]), (5, .box [.d kPP]), (6, .box [.d kPP]), (7, .box [.d kPP]), (10, .d kI), (11, .d kI), (120, .d .bool)]) none uLf uLf) uLf) (uNn (uNn (.node (some [(4, .box [.d kPP]), (5, .box [.d kPP]), (6, .box [.d kPP]), (7, .box [.d kPP]), (10, .d kI), (11, .d kI), (142, .d .bool)]) none uLf uLf) uLf) (uNn (uNn (.node (some [(156, .d .bool)]) none uLf uLf) uLf) uLf)))))))
def Kg (k : Nat) (zp : PPt → Option Bool) (zw : PPt → PPt → PPt → Option Int) (zV : PPt → PPt → PPt → Option Bool) (a0 : PPt) (a1 : PPt) (a2 : PPt) (a3 : PPt) : Option PPt :=
 zy (α := (PPt × (PPt × (PPt × (PPt × Bool))))) (fun (y0, y1, y2, y3, y4) =>
 bif y4 then
 some (0, 2)
 else
 bnd (zw (y0.1, y0.2) (y1.1, y1.2) (y2.1, y2.2)) fun r5 =>
 bnd (zw (y0.1, y0.2) (y1.1, y1.2) (y3.1, y3.2)) fun r6 =>
 zy (α := (PPt × (PPt × (PPt × (PPt × (Int × (Int × Bool))))))) (fun (y7, y8, y9, y10, y11, y12, y13) =>
 bif y13 then
 bnd (zV (y7.1, y7.2) (y8.1, y8.2) (y9.1, y9.2)) fun r14 =>
 zy (α := (PPt × (PPt × (PPt × (PPt × Int))))) (fun (y15, y16, y17, y18, y19) =>
 bnd (zV (y15.1, y15.2) (y16.1, y16.2) (y18.1, y18.2)) fun r20 =>
 zy (α := (PPt × (PPt × (PPt × (PPt × Int))))) (fun (y21, y22, y23, y24, y25) =>
 zy (α := (PPt × (PPt × (PPt × (Int × Bool))))) (fun (y26, y27, y28, y29, y30) =>
 zy (α := (PPt × (PPt × (PPt × Int)))) (fun (y31, y32, y33, y34) =>
 zy (α := (Int × Bool)) (fun (y35, y36) =>
 zy (α := Int) (fun y37 =>
 bif decide (y37 ≥ 2) then
 some (4, 0)
 else
 bif decide (y37 = 1) then
 some (1, 0)
 else
 some (0, 0)) fun j38 =>
 bif y36 then
 j38 (w64 (y35 + 1))
 else
 j38 y35) fun j39 =>
 bnd (zV (y32.1, y32.2) (y33.1, y33.2) (y31.1, y31.2)) fun r40 =>
 bif r40 then
 bif !((decide (y31.1 = y32.1)) && (decide (y31.2 = y32.2))) then
 j39 (y34, !((decide (y31.1 = y33.1)) && (decide (y31.2 = y33.2))))
 else
 j39 (y34, false)
 else
 j39 (y34, false)) fun j41 =>
 bif y30 then
 j41 ((y26.1, y26.2), (y27.1, y27.2), (y28.1, y28.2), w64 (y29 + 1))
 else
 j41 ((y26.1, y26.2), (y27.1, y27.2), (y28.1, y28.2), y29)) fun j42 =>
 bnd (zV (y23.1, y23.2) (y24.1, y24.2) (y21.1, y21.2)) fun r43 =>
 bif r43 then
 bif !((decide (y21.1 = y23.1)) && (decide (y21.2 = y23.2))) then
 j42 ((y22.1, y22.2), (y23.1, y23.2), (y24.1, y24.2), y25, !((decide (y21.1 = y24.1)) && (decide (y21.2 = y24.2))))
 else
 j42 ((y22.1, y22.2), (y23.1, y23.2), (y24.1, y24.2), y25, false)
 else
 j42 ((y22.1, y22.2), (y23.1, y23.2), (y24.1, y24.2), y25, false)) fun j44 =>
 bif r20 then
 j44 ((y15.1, y15.2), (y16.1, y16.2), (y17.1, y17.2), (y18.1, y18.2), w64 (y19 + 1))
 else
 j44 ((y15.1, y15.2), (y16.1, y16.2), (y17.1, y17.2), (y18.1, y18.2), y19)) fun j45 =>
 bif r14 then
 j45 ((y7.1, y7.2), (y8.1, y8.2), (y9.1, y9.2), (y10.1, y10.2), 1)
 else
 j45 ((y7.1, y7.2), (y8.1, y8.2), (y9.1, y9.2), (y10.1, y10.2), 0)
 else
 zy (α := (PPt × (PPt × (PPt × (PPt × (Int × (Int × Bool))))))) (fun (y46, y47, y48, y49, y50, y51, y52) =>
 bif y52 then
 some (1, 0)
 else
 zy (α := (PPt × (PPt × (PPt × (PPt × (Int × (Int × Bool))))))) (fun (y53, y54, y55, y56, y57, y58, y59) =>
 bif y59 then
 some (2, 0)
 else
 zy (α := Bool) (fun y60 =>
 bif y60 then
 some (3, 0)
 else
 some (0, 0)) fun j61 =>
 bif !(decide (y57 = y58)) then
 bnd (zw (y55.1, y55.2) (y56.1, y56.2) (y53.1, y53.2)) fun r62 =>
 bnd (zw (y55.1, y55.2) (y56.1, y56.2) (y54.1, y54.2)) fun r63 =>
 j61 (!(decide (r62 = r63)))
 else
 j61 false) fun j64 =>
 bnd (zV (y46.1, y46.2) (y47.1, y47.2) (y48.1, y48.2)) fun r65 =>
 bif r65 then
 j64 ((y46.1, y46.2), (y47.1, y47.2), (y48.1, y48.2), (y49.1, y49.2), y50, y51, true)
 else
 bnd (zV (y46.1, y46.2) (y47.1, y47.2) (y49.1, y49.2)) fun r66 =>
 bif r66 then
 j64 ((y46.1, y46.2), (y47.1, y47.2), (y48.1, y48.2), (y49.1, y49.2), y50, y51, true)
 else
 bnd (zV (y48.1, y48.2) (y49.1, y49.2) (y46.1, y46.2)) fun r67 =>
 bif r67 then
 j64 ((y46.1, y46.2), (y47.1, y47.2), (y48.1, y48.2), (y49.1, y49.2), y50, y51, true)
 else
 bnd (zV (y48.1, y48.2) (y49.1, y49.2) (y47.1, y47.2)) fun r68 =>
 j64 ((y46.1, y46.2), (y47.1, y47.2), (y48.1, y48.2), (y49.1, y49.2), y50, y51, r68)) fun j69 =>
 bif (decide (y7.1 = y9.1)) && (decide (y7.2 = y9.2)) then
 j69 ((y7.1, y7.2), (y8.1, y8.2), (y9.1, y9.2), (y10.1, y10.2), y11, y12, true)
 else
 bif (decide (y7.1 = y10.1)) && (decide (y7.2 = y10.2)) then
 j69 ((y7.1, y7.2), (y8.1, y8.2), (y9.1, y9.2), (y10.1, y10.2), y11, y12, true)
 else
 bif (decide (y8.1 = y9.1)) && (decide (y8.2 = y9.2)) then
 j69 ((y7.1, y7.2), (y8.1, y8.2), (y9.1, y9.2), (y10.1, y10.2), y11, y12, true)
 else
 j69 ((y7.1, y7.2), (y8.1, y8.2), (y9.1, y9.2), (y10.1, y10.2), y11, y12, (decide (y8.1 = y10.1)) && (decide (y8.2 = y10.2)))) fun j70 =>
 bif decide (r5 = 0) then
 j70 ((y0.1, y0.2), (y1.1, y1.2), (y2.1, y2.2), (y3.1, y3.2), r5, r6, decide (r6 = 0))
 else
 j70 ((y0.1, y0.2), (y1.1, y1.2), (y2.1, y2.2), (y3.1, y3.2), r5, r6, false)) fun j71 =>
 bif (decide (a0.1 = a1.1)) && (decide (a0.2 = a1.2)) then
 j71 ((a0.1, a0.2), (a1.1, a1.2), (a2.1, a2.2), (a3.1, a3.2), true)
 else
 bif (decide (a2.1 = a3.1)) && (decide (a2.2 = a3.2)) then
 j71 ((a0.1, a0.2), (a1.1, a1.2), (a2.1, a2.2), (a3.1, a3.2), true)
 else
 bnd (zp (a0.1, a0.2)) fun r72 =>
 bif !r72 then
 j71 ((a0.1, a0.2), (a1.1, a1.2), (a2.1, a2.2), (a3.1, a3.2), true)
 else
 bnd (zp (a1.1, a1.2)) fun r73 =>
 bif !r73 then
 j71 ((a0.1, a0.2), (a1.1, a1.2), (a2.1, a2.2), (a3.1, a3.2), true)
 else
 bnd (zp (a2.1, a2.2)) fun r74 =>
 bif !r74 then
 j71 ((a0.1, a0.2), (a1.1, a1.2), (a2.1, a2.2), (a3.1, a3.2), true)
 else
 bnd (zp (a3.1, a3.2)) fun r75 =>
 j71 ((a0.1, a0.2), (a1.1, a1.2), (a2.1, a2.2), (a3.1, a3.2), !r75)
theorem zed (k : Nat) (zp : PPt → Option Bool) (zw : PPt → PPt → PPt → Option Int) (zV : PPt → PPt → PPt → Option Bool) (a0 : PPt) (a1 : PPt) (a2 : PPt) (a3 : PPt) : zM [⟨72, [.d kPP], [.bool], fun x => zp x, none⟩, ⟨73, [.d kPP, .d kPP, .d kPP], [kI], fun x => zw (x.1) (x.2.1) (x.2.2), none⟩, ⟨74, [.d kPP, .d kPP, .d kPP], [.bool], fun x => zV (x.1) (x.2.1) (x.2.2), none⟩] tb k Tryz.f32 Xs [.d kPP, .d kPP, .d kPP, .d kPP] [kI, kI] (a0, a1, a2, a3) = Kg k zp zw zV a0 a1 a2 a3 := by kernel_rfl
def qK (k : Nat) (a0 : PPt) (a1 : PPt) (a2 : PPt) (a3 : PPt) : Option PPt := Kg k (zX k) (z8 k) (q8 k) a0 a1 a2 a3
theorem KR (k : Nat) : zv Tryz.prog 32 [.d kPP, .d kPP, .d kPP, .d kPP] [kI, kI] (fun x => qK k (x.1) (x.2.1) (x.2.2.1) (x.2.2.2)) := fun x y h => zh zN mix (zo.cons (ze.of rfl (jA k)) (zo.cons (ze.of rfl (jZ k)) (zo.cons (ze.of rfl (Je k)) (zo.nil _)))) Tryz.func32 (N := k) (an := Xs) (by kernel_rfl) x y ((zed k (zX k) (z8 k) (q8 k) (x.1) (x.2.1) (x.2.2.1) (x.2.2.2)).trans h)
def K3 : Ann := uNn uLf (uNn (.node (some [(6, .d .bool)]) none uLf uLf) uLf)
def Jg (k : Nat) (zV : PPt → PPt → PPt → Option Bool) (a0 : PPt) (a1 : PPt) (a2 : PPt) : Option Bool :=
 zy (α := Bool) (fun y0 =>
 some y0) fun j1 =>
 bnd (zV (a0.1, a0.2) (a1.1, a1.2) (a2.1, a2.2)) fun r2 =>
 bif r2 then
 bif !((decide (a2.1 = a0.1)) && (decide (a2.2 = a0.2))) then
 j1 (!((decide (a2.1 = a1.1)) && (decide (a2.2 = a1.2))))
 else
 j1 false
 else
 j1 false
theorem zcy (k : Nat) (zV : PPt → PPt → PPt → Option Bool) (a0 : PPt) (a1 : PPt) (a2 : PPt) : zM [⟨74, [.d kPP, .d kPP, .d kPP], [.bool], fun x => zV (x.1) (x.2.1) (x.2.2), none⟩] tb k Tryz.f38 K3 [.d kPP, .d kPP, .d kPP] [.bool] (a0, a1, a2) = Jg k zV a0 a1 a2 := by kernel_rfl
def jo (k : Nat) (a0 : PPt) (a1 : PPt) (a2 : PPt) : Option Bool := Jg k (q8 k) a0 a1 a2
theorem zaZ (k : Nat) : zv Tryz.prog 38 [.d kPP, .d kPP, .d kPP] [.bool] (fun x => jo k (x.1) (x.2.1) (x.2.2)) := fun x y h => zh zN mix (zo.cons (ze.of rfl (Je k)) (zo.nil _)) Tryz.func38 (N := k) (an := K3) (by kernel_rfl) x y ((zcy k (q8 k) (x.1) (x.2.1) (x.2.2)).trans h)
def YO : Ann := uNn uLf (uNn (uNn uLf (uNn (.node none (some [(1, .box [.d kPl]), (2, .box [.d (.pair kI kPP)]), (3, .d kI)]) (uNn uLf (uNn (uNn (uNn uLf (uNn (.node none (some [(1, .box [.d kPl]), (2, .box [.d (.pair kI kPP)]), (3, .d kI), (4, .d kI)]) uLf uLf) uLf)) uLf) uLf)) uLf) uLf)) (uNn uLf (uNn (uNn uLf (uNn (.node none (some [(1, .box [.d kPl]), (2, .box [.d (.pair kI kPP)]), (5, .d kLP), (6, .d kI)]) uLf uLf) uLf)) (uNn (uNn uLf (uNn (.node none (some [(1, .box [.d kPl]), (2, .box [.d (.pair kI kPP)]), (5, .d kLP), (7, .d kI)]) (uNn uLf (uNn (uNn (uNn uLf (uNn (.node none (some [(1, .box [.d kPl]), (2, .box [.d (.pair kI kPP)]), (5, .d kLP), (7, .d kI), (8, .d kI)]) uLf uLf) uLf)) uLf) uLf)) uLf) uLf)) (uNn (uNn uLf (uNn (.node none (some [(1, .box [.d kPl]), (2, .box [.d (.pair kI kPP)]), (5, .d kLP), (11, .d kI)]) (uNn uLf (uNn (uNn (uNn uLf (uNn (.node none (some [(1, .box [.d kPl]), (2, .box [.d (.pair kI kPP)]), (5, .d kLP), (11, .d kI), (12, .d kI)]) uLf uLf) uLf)) uLf) uLf)) uLf) uLf)) uLf)))))
def Jw (k : Nat) (qV : TPl → Option LPt) (qL : PPt → PPt → PPt → PPt → Option PPt) (ZZ : PPt → PPt → PPt → Option Bool) (a0 : TPl) : Option (Int × PPt) :=
 zx (α := (TPl × ((Int × PPt) × Int))) (fun (x1, x2, x3) next0 =>
 bif decide (x3 < (x1.1.length : Int)) then
 zx (α := (TPl × ((Int × PPt) × PPt))) (fun (x5, x6, x7, x8) next4 =>
 bif decide (x8 < (x5.1.length : Int)) then
 gd (inb x7 x5.1.length) <|
 gd (inb x8 x5.1.length) <|
 bif (decide ((rdD (0, 0) x5.1 x7).1 = (rdD (0, 0) x5.1 x8).1)) && (decide ((rdD (0, 0) x5.1 x7).2 = (rdD (0, 0) x5.1 x8).2)) then
 some (1, x7, x8)
 else
 next4 ((x5.1, x5.2.1, x5.2.2), (x6.1, x6.2.1, x6.2.2), x7, w64 (x8 + 1))
 else
 next0 ((x5.1, x5.2.1, x5.2.2), (x6.1, x6.2.1, x6.2.2), w64 (x7 + 1))) k ((x1.1, x1.2.1, x1.2.2), (x2.1, x2.2.1, x2.2.2), x3, w64 (x3 + 1))
 else
 bnd (qV (x1.1, x1.2.1, x1.2.2)) fun r9 =>
 zx (α := (TPl × ((Int × PPt) × (LPt × Int)))) (fun (x11, x12, x13, x14) next10 =>
 bif decide (x14 < (x13.length : Int)) then
 gd (inb x14 x13.length) <|
 gd (inb x14 x13.length) <|
 bif decide ((rdD (0, 0) x13 x14).1 = (rdD (0, 0) x13 x14).2) then
 some (2, x14, 0)
 else
 next10 ((x11.1, x11.2.1, x11.2.2), (x12.1, x12.2.1, x12.2.2), x13, w64 (x14 + 1))
 else
 zx (α := (TPl × ((Int × PPt) × (LPt × Int)))) (fun (x16, x17, x18, x19) next15 =>
 bif decide (x19 < (x18.length : Int)) then
 zx (α := (TPl × ((Int × PPt) × (LPt × PPt)))) (fun (x21, x22, x23, x24, x25) next20 =>
 bif decide (x25 < (x23.length : Int)) then
 gd (inb x24 x23.length) <|
 gd (inb (rdD (0, 0) x23 x24).1 x21.1.length) <|
 gd (inb x24 x23.length) <|
 gd (inb (rdD (0, 0) x23 x24).2 x21.1.length) <|
 gd (inb x25 x23.length) <|
 gd (inb (rdD (0, 0) x23 x25).1 x21.1.length) <|
 gd (inb x25 x23.length) <|
 gd (inb (rdD (0, 0) x23 x25).2 x21.1.length) <|
 bnd (qL ((rdD (0, 0) x21.1 (rdD (0, 0) x23 x24).1).1, (rdD (0, 0) x21.1 (rdD (0, 0) x23 x24).1).2) ((rdD (0, 0) x21.1 (rdD (0, 0) x23 x24).2).1, (rdD (0, 0) x21.1 (rdD (0, 0) x23 x24).2).2) ((rdD (0, 0) x21.1 (rdD (0, 0) x23 x25).1).1, (rdD (0, 0) x21.1 (rdD (0, 0) x23 x25).1).2) ((rdD (0, 0) x21.1 (rdD (0, 0) x23 x25).2).1, (rdD (0, 0) x21.1 (rdD (0, 0) x23 x25).2).2)) fun r26 =>
 bif decide (r26.1 > 1) then
 some (3, x24, x25)
 else
 next20 ((x21.1, x21.2.1, x21.2.2), (x22.1, x22.2.1, x22.2.2), x23, x24, w64 (x25 + 1))
 else
 next15 ((x21.1, x21.2.1, x21.2.2), (x22.1, x22.2.1, x22.2.2), x23, w64 (x24 + 1))) k ((x16.1, x16.2.1, x16.2.2), (x17.1, x17.2.1, x17.2.2), x18, x19, w64 (x19 + 1))
 else
 zx (α := (TPl × ((Int × PPt) × (LPt × Int)))) (fun (x28, x29, x30, x31) next27 =>
 bif decide (x31 < (x28.1.length : Int)) then
 zx (α := (TPl × ((Int × PPt) × (LPt × PPt)))) (fun (x33, x34, x35, x36, x37) next32 =>
 bif decide (x37 < (x35.length : Int)) then
 gd (inb x37 x35.length) <|
 gd (inb (rdD (0, 0) x35 x37).1 x33.1.length) <|
 gd (inb x37 x35.length) <|
 gd (inb (rdD (0, 0) x35 x37).2 x33.1.length) <|
 gd (inb x36 x33.1.length) <|
 bnd (ZZ ((rdD (0, 0) x33.1 (rdD (0, 0) x35 x37).1).1, (rdD (0, 0) x33.1 (rdD (0, 0) x35 x37).1).2) ((rdD (0, 0) x33.1 (rdD (0, 0) x35 x37).2).1, (rdD (0, 0) x33.1 (rdD (0, 0) x35 x37).2).2) ((rdD (0, 0) x33.1 x36).1, (rdD (0, 0) x33.1 x36).2)) fun r38 =>
 bif r38 then
 some (4, x36, x37)
 else
 next32 ((x33.1, x33.2.1, x33.2.2), (x34.1, x34.2.1, x34.2.2), x35, x36, w64 (x37 + 1))
 else
 next27 ((x33.1, x33.2.1, x33.2.2), (x34.1, x34.2.1, x34.2.2), x35, w64 (x36 + 1))) k ((x28.1, x28.2.1, x28.2.2), (x29.1, x29.2.1, x29.2.2), x30, x31, 0)
 else
 some (0, 0, 0)) k ((x16.1, x16.2.1, x16.2.2), (x17.1, x17.2.1, x17.2.2), x18, 0)) k ((x11.1, x11.2.1, x11.2.2), (x12.1, x12.2.1, x12.2.2), x13, 0)) k ((x1.1, x1.2.1, x1.2.2), (x2.1, x2.2.1, x2.2.2), r9, 0)) k ((a0.1, a0.2.1, a0.2.2), (0, 0, 0), 0)
theorem zdn (k : Nat) (qV : TPl → Option LPt) (qL : PPt → PPt → PPt → PPt → Option PPt) (ZZ : PPt → PPt → PPt → Option Bool) (a0 : TPl) : zM [⟨27, [.d kPl], [.sl kPP], fun x => qV x, none⟩, ⟨32, [.d kPP, .d kPP, .d kPP, .d kPP], [kI, kI], fun x => qL (x.1) (x.2.1) (x.2.2.1) (x.2.2.2), none⟩, ⟨38, [.d kPP, .d kPP, .d kPP], [.bool], fun x => ZZ (x.1) (x.2.1) (x.2.2), none⟩] tb k Tryz.f95 YO [.d kPl] [.pair kI kPP] a0 = Jw k qV qL ZZ a0 := by kernel_rfl
def jF (k : Nat) (a0 : TPl) : Option (Int × PPt) := Jw k (qG k) (qK k) (jo k) a0
theorem zbs (k : Nat) : zv Tryz.prog 95 [.d kPl] [.pair kI kPP] (fun x => jF k x) := fun x y h => zh zN mix (zo.cons (ze.of rfl (Yq k)) (zo.cons (ze.of rfl (KR k)) (zo.cons (ze.of rfl (zaZ k)) (zo.nil _)))) Tryz.func95 (N := k) (an := YO) (by kernel_rfl) x y ((zdn k (qG k) (qK k) (jo k) x).trans h)
end
end Go.Proofs.YtpkkcjmblocjdaaGreat.AM
