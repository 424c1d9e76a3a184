/- The functions, by their texts: written by a program. -/
import Derived.Test.YtpkkcjmblocjdaaGreatGa8
import Derived.Test.YtpkkcjmblocjdaaGreatCln
set_option linter.unusedVariables false
set_option linter.unusedSimpArgs false
set_option linter.unusedSectionVars false
set_option maxRecDepth 100000
namespace Go.Proofs.YtpkkcjmblocjdaaGreat.AM
open Go.RowKit Go.Proofs
noncomputable section
def XV : Ann := uNn uLf (uNn uLf (uNn (uNn uLf (uNn (.node none (some [(0, .d (.sl (.sl kI))), (3, .row kPP 60), (4, .d kI)]) (uNn uLf (uNn (uNn (uNn uLf (uNn (.node none (some [(0, .d (.sl (.sl kI))), (3, .row kPP 60), (4, .d kI), (5, .d kI)]) (uNn uLf (uNn (uNn (uNn uLf (uNn (uNn uLf (.node (some [(0, .d (.sl (.sl kI))), (3, .row kPP 60), (4, .d kI), (5, .d kI), (6, .d kI)]) none uLf uLf)) uLf)) uLf) uLf)) uLf) uLf)) uLf) uLf)) uLf) uLf)) uLf))
def jb (k : Nat) (a0 : (List (List Int))) : Option LPt :=
 zx (α := ((List (List Int)) × (LPt × Int))) (fun (x1, x2, x3) next0 =>
 bif decide (x3 < (x1.length : Int)) then
 zx (α := ((List (List Int)) × (LPt × PPt))) (fun (x5, x6, x7, x8) next4 =>
 gd (inb x7 x5.length) <|
 bif decide (x8 < ((rdD [] x5 x7).length : Int)) then
 gd (inb x7 x5.length) <|
 gd (inb 0 (rdD [] x5 x7).length) <|
 gd (inb x7 x5.length) <|
 zy (α := ((List (List Int)) × (LPt × (Int × PPt)))) (fun (y9, y10, y11, y12, y13) =>
 gd (inb y11 y9.length) <|
 gd (inb y12 (rdD [] y9 y11).length) <|
 gd (few (y10.length + 1)) <|
 next4 (y9, y10 ++ [(rdD 0 (rdD [] y9 y11) y12, y13)], y11, w64 (y12 + 1))) fun j14 =>
 bif decide ((w64 (x8 + 1)) < ((rdD [] x5 x7).length : Int)) then
 gd (inb x7 x5.length) <|
 gd (inb (w64 (x8 + 1)) (rdD [] x5 x7).length) <|
 j14 (x5, x6, x7, x8, rdD 0 (rdD [] x5 x7) (w64 (x8 + 1)))
 else
 j14 (x5, x6, x7, x8, rdD 0 (rdD [] x5 x7) 0)
 else
 next0 (x5, x6, w64 (x7 + 1))) k (x1, x2, x3, 0)
 else
 some x2) k (a0, [], 0)
theorem ze6 (k : Nat) (a0 : (List (List Int))) : zM [] tb k Tryz.f70 XV [.d (.sl (.sl kI))] [.sl kPP] a0 = jb k a0 := by kernel_rfl
theorem K5 (k : Nat) : zv Tryz.prog 70 [.d (.sl (.sl kI))] [.sl kPP] (fun x => jb k x) := fun x y h => zh zN mix (zo.nil _) Tryz.func70 (N := k) (an := XV) (by kernel_rfl) x y ((ze6 k x).trans h)
def YE : Ann := uNn uLf (uNn (uNn (.node (some [(0, .d kI), (1, .d (.sl (.sl kI))), (16, .d .bool)]) none uLf uLf) uLf) (uNn (uNn uLf (uNn (.node none (some [(0, .d kI), (1, .d (.sl (.sl kI))), (5, .d kI)]) (uNn uLf (uNn (uNn (uNn uLf (uNn uLf (uNn (.node none (some [(0, .d kI), (1, .d (.sl (.sl kI))), (5, .d kI), (6, .d kI)]) (uNn uLf (uNn (uNn (uNn (uNn (.node (some [(0, .d kI), (1, .d (.sl (.sl kI))), (5, .d kI), (6, .d kI), (56, .d .bool)]) none uLf uLf) uLf) (uNn uLf (uNn (.node none (some [(0, .d kI), (1, .d (.sl (.sl kI))), (5, .d kI), (6, .d kI), (7, .d kI)]) uLf uLf) uLf))) uLf) uLf)) uLf) uLf))) uLf) uLf)) uLf) uLf)) (uNn uLf (uNn (uNn uLf (uNn (.node none (some [(8, .d kLP), (9, .d kI)]) (uNn uLf (uNn (uNn (uNn uLf (uNn (.node none (some [(8, .d kLP), (9, .d kI), (10, .d kI)]) uLf uLf) uLf)) uLf) uLf)) uLf) uLf)) uLf))))
def JR (k : Nat) (qU : (List (List Int)) → Option LPt) (a0 : Int) (a1 : (List (List Int))) : Option Int :=
 zy (α := (Int × ((List (List Int)) × Bool))) (fun (y0, y1, y2) =>
 bif y2 then
 some 2
 else
 zx (α := (Int × ((List (List Int)) × Int))) (fun (x4, x5, x6) next3 =>
 bif decide (x6 < (x5.length : Int)) then
 gd (inb x6 x5.length) <|
 bif decide (((rdD [] x5 x6).length : Int) < 3) then
 some 2
 else
 zx (α := (Int × ((List (List Int)) × PPt))) (fun (x8, x9, x10, x11) next7 =>
 gd (inb x10 x9.length) <|
 bif decide (x11 < ((rdD [] x9 x10).length : Int)) then
 zy (α := (Int × ((List (List Int)) × (Int × (Int × Bool))))) (fun (y12, y13, y14, y15, y16) =>
 bif y16 then
 some 2
 else
 zx (α := (Int × ((List (List Int)) × (Int × PPt)))) (fun (x18, x19, x20, x21, x22) next17 =>
 bif decide (x22 < x21) then
 gd (inb x20 x19.length) <|
 gd (inb x22 (rdD [] x19 x20).length) <|
 gd (inb x20 x19.length) <|
 gd (inb x21 (rdD [] x19 x20).length) <|
 bif decide ((rdD 0 (rdD [] x19 x20) x22) = (rdD 0 (rdD [] x19 x20) x21)) then
 some 2
 else
 next17 (x18, x19, x20, x21, w64 (x22 + 1))
 else
 next7 (x18, x19, x20, w64 (x21 + 1))) k (y12, y13, y14, y15, 0)) fun j23 =>
 gd (inb x10 x9.length) <|
 gd (inb x11 (rdD [] x9 x10).length) <|
 bif decide ((rdD 0 (rdD [] x9 x10) x11) < 0) then
 j23 (x8, x9, x10, x11, true)
 else
 gd (inb x10 x9.length) <|
 gd (inb x11 (rdD [] x9 x10).length) <|
 j23 (x8, x9, x10, x11, decide ((rdD 0 (rdD [] x9 x10) x11) ≥ x8))
 else
 next3 (x8, x9, w64 (x10 + 1))) k (x4, x5, x6, 0)
 else
 bnd (qU x5) fun r24 =>
 zx (α := (LPt × Int)) (fun (x26, x27) next25 =>
 bif decide (x27 < (x26.length : Int)) then
 zx (α := (LPt × PPt)) (fun (x29, x30, x31) next28 =>
 bif decide (x31 < x30) then
 gd (inb x30 x29.length) <|
 gd (inb x31 x29.length) <|
 bif (decide ((rdD (0, 0) x29 x30).1 = (rdD (0, 0) x29 x31).1)) && (decide ((rdD (0, 0) x29 x30).2 = (rdD (0, 0) x29 x31).2)) then
 some 80
 else
 next28 (x29, x30, w64 (x31 + 1))
 else
 next25 (x29, w64 (x30 + 1))) k (x26, x27, 0)
 else
 some 0) k (r24, 0)) k (y0, y1, 0)) fun j32 =>
 bif decide (a0 < 0) then
 j32 (a0, a1, true)
 else
 j32 (a0, a1, decide (a0 > 1048576))
theorem zdm (k : Nat) (qU : (List (List Int)) → Option LPt) (a0 : Int) (a1 : (List (List Int))) : zM [⟨70, [.d (.sl (.sl kI))], [.sl kPP], fun x => qU x, none⟩] tb k Tryz.f69 YE [.d kI, .d (.sl (.sl kI))] [kI] (a0, a1) = JR k qU a0 a1 := by kernel_rfl
def Zp (k : Nat) (a0 : Int) (a1 : (List (List Int))) : Option Int := JR k (jb k) a0 a1
theorem zbm (k : Nat) : zv Tryz.prog 69 [.d kI, .d (.sl (.sl kI))] [kI] (fun x => Zp k (x.1) (x.2)) := fun x y h => zh zN mix (zo.cons (ze.of rfl (K5 k)) (zo.nil _)) Tryz.func69 (N := k) (an := YE) (by kernel_rfl) x y ((zdm k (jb k) (x.1) (x.2)).trans h)
def Xl : Ann := uNn uLf (uNn (.node (some [(4, .d .bool)]) none uLf uLf) uLf)
def jR (k : Nat) (a0 : PPt) (a1 : PPt) : Option Bool :=
 zy (α := Bool) (fun y0 =>
 some y0) fun j1 =>
 bif decide (a0.1 < a1.1) then
 j1 true
 else
 bif decide (a0.1 = a1.1) then
 j1 (decide (a0.2 < a1.2))
 else
 j1 false
theorem zdQ (k : Nat) (a0 : PPt) (a1 : PPt) : zM [] tb k Tryz.f71 Xl [.d kPP, .d kPP] [.bool] (a0, a1) = jR k a0 a1 := by kernel_rfl
theorem zck (k : Nat) : zv Tryz.prog 71 [.d kPP, .d kPP] [.bool] (fun x => jR k (x.1) (x.2)) := fun x y h => zh zN mix (zo.nil _) Tryz.func71 (N := k) (an := Xl) (by kernel_rfl) x y ((zdQ k (x.1) (x.2)).trans h)
def YP : Ann := uNn uLf (uNn uLf (uNn uLf (uNn uLf (uNn (uNn uLf (uNn (.node none (some [(3, .row kPP 60), (4, .d kI), (5, .d kLP), (6, .d kI)]) (uNn (uNn (.node (some [(3, .row kPP 60), (4, .d kI), (5, .d kLP), (6, .d kI), (21, .d .bool)]) none uLf uLf) uLf) (uNn (.node (some [(3, .row kPP 60), (4, .d kI), (5, .d kLP), (6, .d kI)]) none (uNn uLf (uNn (uNn uLf (.node (some [(3, .row kPP 60), (4, .d kI), (5, .d kLP), (6, .d kI), (7, .box [.d kPP])]) none uLf uLf)) (uNn uLf (uNn uLf (uNn (uNn (.node none (some [(3, .row kPP 60), (4, .d kI), (5, .d kLP), (6, .d kI), (7, .box [.d kPP]), (8, .row kPP 60), (9, .d kI)]) (uNn (uNn (.node (some [(3, .row kPP 60), (4, .d kI), (5, .d kLP), (6, .d kI), (7, .box [.d kPP]), (8, .row kPP 60), (9, .d kI), (49, .d .bool)]) none uLf uLf) uLf) uLf) uLf) uLf) (uNn (uNn (.node (some [(3, .row kPP 60), (4, .d kI), (5, .d kLP), (6, .d kI), (7, .box [.d kPP]), (8, .row kPP 60), (9, .d kI), (70, .d .bool)]) none uLf uLf) uLf) uLf)))))) uLf) uLf)) uLf) uLf)) uLf))))
def JK (k : Nat) (Ql : Int → (List (List Int)) → Option Int) (qU : (List (List Int)) → Option LPt) (QF : PPt → PPt → Option Bool) (a0 : (List (List Int))) : Option LPt :=
 bnd (Ql 1048576 a0) fun r0 =>
 bnd (qU a0) fun r1 =>
 zx (α := (LPt × (Int × (LPt × Int)))) (fun (x3, x4, x5, x6) next2 =>
 zy (α := (LPt × (Int × (LPt × (Int × Bool))))) (fun (y7, y8, y9, y10, y11) =>
 bif y11 then
 zy (α := (LPt × (Int × (LPt × Int)))) (fun (y12, y13, y14, y15) =>
 next2 (y12, y13, y14, w64 (y15 + 1))) fun j16 =>
 gd (inb y10 y9.length) <|
 zy (α := (LPt × (Int × (LPt × (Int × PPt))))) (fun (y17, y18, y19, y20, y21, y22) =>
 zx (α := (LPt × (Int × (LPt × (Int × (PPt × (LPt × Int))))))) (fun (x24, x25, x26, x27, x28, x29, x30) next23 =>
 zy (α := (LPt × (Int × (LPt × (Int × (PPt × (LPt × (Int × Bool)))))))) (fun (y31, y32, y33, y34, y35, y36, y37, y38) =>
 bif y38 then
 gd (inb y37 y31.length) <|
 gd (few (y36.length + 1)) <|
 next23 (y31, y32, y33, y34, (y35.1, y35.2), y36 ++ [((rdD (0, 0) y31 y37).1, (rdD (0, 0) y31 y37).2)], w64 (y37 + 1))
 else
 zy (α := (LPt × (Int × (LPt × (Int × (PPt × (LPt × (Int × Bool)))))))) (fun (y39, y40, y41, y42, y43, y44, y45, y46) =>
 bif y46 then
 j16 (y39, y40, y41, y42)
 else
 gd (few (y44.length + 1)) <|
 gd (decide (0 ≤ y45)) <|
 gd (decide (y45 ≤ (y39.length : Int))) <|
 gd (few ((y44 ++ [(y43.1, y43.2)]).length + (dpL y39 y45).length)) <|
 j16 ((y44 ++ [(y43.1, y43.2)]) ++ (dpL y39 y45), y40, y41, y42)) fun j47 =>
 bif decide (y37 < (y31.length : Int)) then
 gd (inb y37 y31.length) <|
 j47 (y31, y32, y33, y34, (y35.1, y35.2), y36, y37, (decide ((rdD (0, 0) y31 y37).1 = y35.1)) && (decide ((rdD (0, 0) y31 y37).2 = y35.2)))
 else
 j47 (y31, y32, y33, y34, (y35.1, y35.2), y36, y37, false)) fun j48 =>
 bif decide (x30 < (x24.length : Int)) then
 gd (inb x30 x24.length) <|
 bnd (QF ((rdD (0, 0) x24 x30).1, (rdD (0, 0) x24 x30).2) (x28.1, x28.2)) fun r49 =>
 j48 (x24, x25, x26, x27, (x28.1, x28.2), x29, x30, r49)
 else
 j48 (x24, x25, x26, x27, (x28.1, x28.2), x29, x30, false)) k (y17, y18, y19, y20, (y21, y22), [], 0)) fun j50 =>
 bif decide ((rdD (0, 0) y9 y10).1 > (rdD (0, 0) y9 y10).2) then
 j50 (y7, y8, y9, y10, (rdD (0, 0) y9 y10).2, (rdD (0, 0) y9 y10).1)
 else
 j50 (y7, y8, y9, y10, (rdD (0, 0) y9 y10).1, (rdD (0, 0) y9 y10).2)
 else
 some y7) fun j51 =>
 bif decide (x6 < (x5.length : Int)) then
 j51 (x3, x4, x5, x6, decide (x4 = 0))
 else
 j51 (x3, x4, x5, x6, false)) k ([], r0, r1, 0)
theorem zdq (k : Nat) (Ql : Int → (List (List Int)) → Option Int) (qU : (List (List Int)) → Option LPt) (QF : PPt → PPt → Option Bool) (a0 : (List (List Int))) : zM [⟨69, [.d kI, .d (.sl (.sl kI))], [kI], fun x => Ql (x.1) (x.2), none⟩, ⟨70, [.d (.sl (.sl kI))], [.sl kPP], fun x => qU x, none⟩, ⟨71, [.d kPP, .d kPP], [.bool], fun x => QF (x.1) (x.2), none⟩] tb k Tryz.f30 YP [.d (.sl (.sl kI))] [.sl kPP] a0 = JK k Ql qU QF a0 := by kernel_rfl
def jD (k : Nat) (a0 : (List (List Int))) : Option LPt := JK k (Zp k) (jb k) (jR k) a0
theorem zbJ (k : Nat) : zv Tryz.prog 30 [.d (.sl (.sl kI))] [.sl kPP] (fun x => jD k x) := fun x y h => zh zN mix (zo.cons (ze.of rfl (zbm k)) (zo.cons (ze.of rfl (K5 k)) (zo.cons (ze.of rfl (zck k)) (zo.nil _)))) Tryz.func30 (N := k) (an := YP) (by kernel_rfl) x y ((zdq k (Zp k) (jb k) (jR k) x).trans h)
def J9 : Ann := uNn uLf (uNn (uNn (.node (some [(1, .box [.d kPl]), (27, .d .bool)]) none uLf uLf) uLf) (uNn uLf (uNn uLf (uNn (uNn (.node (some [(1, .box [.d kPl]), (3, .box [.d (.pair kLP (.pair (.sl (.pair kI kPP)) kLP))]), (5, .d kLP), (57, .d .bool)]) none uLf uLf) uLf) (uNn uLf (uNn uLf (uNn (uNn uLf (uNn (.node none (some [(1, .box [.d kPl]), (3, .box [.d (.pair kLP (.pair (.sl (.pair kI kPP)) kLP))]), (5, .d kLP), (8, .d kI)]) (uNn uLf (uNn (uNn (uNn uLf (uNn (.node none (some [(1, .box [.d kPl]), (3, .box [.d (.pair kLP (.pair (.sl (.pair kI kPP)) kLP))]), (5, .d kLP), (8, .d kI), (9, .d kI)]) (uNn uLf (uNn (uNn (uNn uLf (uNn (.node (some [(1, .box [.d kPl]), (3, .box [.d (.pair kLP (.pair (.sl (.pair kI kPP)) kLP))]), (5, .d kLP), (8, .d kI), (9, .d kI), (122, .d .bool)]) none uLf uLf) uLf)) uLf) uLf)) uLf) uLf)) uLf) uLf)) uLf) uLf)) (uNn (uNn uLf (uNn (.node none (some [(1, .box [.d kPl]), (3, .box [.d (.pair kLP (.pair (.sl (.pair kI kPP)) kLP))]), (12, .d kI)]) (uNn uLf (uNn (uNn (uNn uLf (uNn (.node none (some [(1, .box [.d kPl]), (3, .box [.d (.pair kLP (.pair (.sl (.pair kI kPP)) kLP))]), (12, .d kI), (13, .d kI)]) (uNn uLf (uNn (uNn (uNn uLf (uNn (.node (some [(1, .box [.d kPl]), (3, .box [.d (.pair kLP (.pair (.sl (.pair kI kPP)) kLP))]), (12, .d kI), (13, .d kI), (168, .d .bool)]) none uLf uLf) uLf)) uLf) uLf)) uLf) uLf)) uLf) uLf)) uLf) uLf)) uLf))))))))
def Qx (k : Nat) (QB : TPl → Option Bool) (Qn : TPl → Option Bool) (Zn : Option Bool) (ZI : TPl → Option (TMs × Int)) (qZ : TPl → Option (LPt × Int)) (jY : LPt → LPt → Option Bool) (Qo : TMs → Option Int) (Qv : LTr → Option (List (List Int))) (Qi : (List (List Int)) → Option LPt) (qn : LPt → LPt → Option Bool) (qL : PPt → PPt → PPt → PPt → Option PPt) (Jo : LPt → (Int × PPt) → PPt → Option Bool) (a0 : TPl) : Option Bool :=
 zy (α := (TPl × Bool)) (fun (y0, y1) =>
 bif y1 then
 bnd (Zn) fun r2 =>
 some r2
 else
 bnd (ZI (y0.1, y0.2.1, y0.2.2)) fun r3 =>
 bnd (qZ (y0.1, y0.2.1, y0.2.2)) fun r4 =>
 zy (α := (TPl × (TMs × (LPt × Bool)))) (fun (y5, y6, y7, y8) =>
 bif y8 then
 some false
 else
 bnd (Qv y6.2.1) fun r9 =>
 bnd (Qi r9) fun r10 =>
 bnd (qn r10 y7) fun r11 =>
 bif !r11 then
 some false
 else
 zx (α := (TPl × (TMs × (LPt × Int)))) (fun (x13, x14, x15, x16) next12 =>
 bif decide (x16 < (x15.length : Int)) then
 zx (α := (TPl × (TMs × (LPt × PPt)))) (fun (x18, x19, x20, x21, x22) next17 =>
 bif decide (x22 < x21) then
 gd (inb x21 x20.length) <|
 gd (inb (rdD (0, 0) x20 x21).1 x18.1.length) <|
 gd (inb x21 x20.length) <|
 gd (inb (rdD (0, 0) x20 x21).2 x18.1.length) <|
 gd (inb x22 x20.length) <|
 gd (inb (rdD (0, 0) x20 x22).1 x18.1.length) <|
 gd (inb x22 x20.length) <|
 gd (inb (rdD (0, 0) x20 x22).2 x18.1.length) <|
 bnd (qL ((rdD (0, 0) x18.1 (rdD (0, 0) x20 x21).1).1, (rdD (0, 0) x18.1 (rdD (0, 0) x20 x21).1).2) ((rdD (0, 0) x18.1 (rdD (0, 0) x20 x21).2).1, (rdD (0, 0) x18.1 (rdD (0, 0) x20 x21).2).2) ((rdD (0, 0) x18.1 (rdD (0, 0) x20 x22).1).1, (rdD (0, 0) x18.1 (rdD (0, 0) x20 x22).1).2) ((rdD (0, 0) x18.1 (rdD (0, 0) x20 x22).2).1, (rdD (0, 0) x18.1 (rdD (0, 0) x20 x22).2).2)) fun r23 =>
 zy (α := (TPl × (TMs × (LPt × (Int × (Int × Bool)))))) (fun (y24, y25, y26, y27, y28, y29) =>
 bif y29 then
 some false
 else
 next17 ((y24.1, y24.2.1, y24.2.2), (y25.1, y25.2.1, y25.2.2), y26, y27, w64 (y28 + 1))) fun j30 =>
 bif !(decide (r23.2 = 0)) then
 j30 ((x18.1, x18.2.1, x18.2.2), (x19.1, x19.2.1, x19.2.2), x20, x21, x22, true)
 else
 j30 ((x18.1, x18.2.1, x18.2.2), (x19.1, x19.2.1, x19.2.2), x20, x21, x22, decide (r23.1 > 1))
 else
 next12 ((x18.1, x18.2.1, x18.2.2), (x19.1, x19.2.1, x19.2.2), x20, w64 (x21 + 1))) k ((x13.1, x13.2.1, x13.2.2), (x14.1, x14.2.1, x14.2.2), x15, x16, 0)
 else
 zx (α := (TPl × (TMs × Int))) (fun (x32, x33, x34) next31 =>
 bif decide (x34 < (x33.2.1.length : Int)) then
 zx (α := (TPl × (TMs × PPt))) (fun (x36, x37, x38, x39) next35 =>
 bif decide (x39 < (x36.1.length : Int)) then
 gd (inb x38 x37.2.1.length) <|
 zy (α := (TPl × (TMs × (Int × (Int × Bool))))) (fun (y40, y41, y42, y43, y44) =>
 bif y44 then
 some false
 else
 next35 ((y40.1, y40.2.1, y40.2.2), (y41.1, y41.2.1, y41.2.2), y42, w64 (y43 + 1))) fun j45 =>
 bif !(decide (x39 = (rdD (0, 0, 0) x37.2.1 x38).1)) then
 bif !(decide (x39 = (rdD (0, 0, 0) x37.2.1 x38).2.1)) then
 bif !(decide (x39 = (rdD (0, 0, 0) x37.2.1 x38).2.2)) then
 gd (inb x39 x36.1.length) <|
 bnd (Jo x36.1 ((rdD (0, 0, 0) x37.2.1 x38).1, (rdD (0, 0, 0) x37.2.1 x38).2.1, (rdD (0, 0, 0) x37.2.1 x38).2.2) ((rdD (0, 0) x36.1 x39).1, (rdD (0, 0) x36.1 x39).2)) fun r46 =>
 j45 ((x36.1, x36.2.1, x36.2.2), (x37.1, x37.2.1, x37.2.2), x38, x39, r46)
 else
 j45 ((x36.1, x36.2.1, x36.2.2), (x37.1, x37.2.1, x37.2.2), x38, x39, false)
 else
 j45 ((x36.1, x36.2.1, x36.2.2), (x37.1, x37.2.1, x37.2.2), x38, x39, false)
 else
 j45 ((x36.1, x36.2.1, x36.2.2), (x37.1, x37.2.1, x37.2.2), x38, x39, false)
 else
 next31 ((x36.1, x36.2.1, x36.2.2), (x37.1, x37.2.1, x37.2.2), w64 (x38 + 1))) k ((x32.1, x32.2.1, x32.2.2), (x33.1, x33.2.1, x33.2.2), x34, 0)
 else
 bnd (Zn) fun r47 =>
 some r47) k ((x13.1, x13.2.1, x13.2.2), (x14.1, x14.2.1, x14.2.2), 0)) k ((y5.1, y5.2.1, y5.2.2), (y6.1, y6.2.1, y6.2.2), y7, 0)) fun j48 =>
 bif !(decide (r3.2 = 0)) then
 j48 ((y0.1, y0.2.1, y0.2.2), (r3.1.1, r3.1.2.1, r3.1.2.2), r4.1, true)
 else
 bif !(decide (r4.2 = 0)) then
 j48 ((y0.1, y0.2.1, y0.2.2), (r3.1.1, r3.1.2.1, r3.1.2.2), r4.1, true)
 else
 bnd (jY r3.1.1 y0.1) fun r49 =>
 bif !r49 then
 j48 ((y0.1, y0.2.1, y0.2.2), (r3.1.1, r3.1.2.1, r3.1.2.2), r4.1, true)
 else
 bnd (Qo (r3.1.1, r3.1.2.1, r3.1.2.2)) fun r50 =>
 j48 ((y0.1, y0.2.1, y0.2.2), (r3.1.1, r3.1.2.1, r3.1.2.2), r4.1, !(decide (r50 = 0)))) fun j51 =>
 bnd (QB (a0.1, a0.2.1, a0.2.2)) fun r52 =>
 bif r52 then
 j51 ((a0.1, a0.2.1, a0.2.2), true)
 else
 bif decide ((a0.1.length : Int) > 16) then
 j51 ((a0.1, a0.2.1, a0.2.2), true)
 else
 bnd (Qn (a0.1, a0.2.1, a0.2.2)) fun r53 =>
 j51 ((a0.1, a0.2.1, a0.2.2), !r53)
theorem za5 (k : Nat) (QB : TPl → Option Bool) (Qn : TPl → Option Bool) (Zn : Option Bool) (ZI : TPl → Option (TMs × Int)) (qZ : TPl → Option (LPt × Int)) (jY : LPt → LPt → Option Bool) (Qo : TMs → Option Int) (Qv : LTr → Option (List (List Int))) (Qi : (List (List Int)) → Option LPt) (qn : LPt → LPt → Option Bool) (qL : PPt → PPt → PPt → PPt → Option PPt) (Jo : LPt → (Int × PPt) → PPt → Option Bool) (a0 : TPl) : zM [⟨10, [.d kPl], [.bool], fun x => QB x, none⟩, ⟨20, [.d kPl], [.bool], fun x => Qn x, none⟩, ⟨11, [], [.bool], fun x => Zn, none⟩, ⟨15, [.d kPl], [.pair kLP (.pair (.sl (.pair kI kPP)) kLP), kI], fun x => ZI x, none⟩, ⟨13, [.d kPl], [.sl kPP, kI], fun x => qZ x, none⟩, ⟨23, [.d kLP, .d kLP], [.bool], fun x => jY (x.1) (x.2), none⟩, ⟨22, [.d (.pair kLP (.pair (.sl (.pair kI kPP)) kLP))], [kI], fun x => Qo x, none⟩, ⟨31, [.d (.sl (.pair kI kPP))], [.sl (.sl kI)], fun x => Qv x, none⟩, ⟨30, [.d (.sl (.sl kI))], [.sl kPP], fun x => Qi x, none⟩, ⟨17, [.d kLP, .d kLP], [.bool], fun x => qn (x.1) (x.2), none⟩, ⟨32, [.d kPP, .d kPP, .d kPP, .d kPP], [kI, kI], fun x => qL (x.1) (x.2.1) (x.2.2.1) (x.2.2.2), none⟩, ⟨33, [.d kLP, .d (.pair kI kPP), .d kPP], [.bool], fun x => Jo (x.1) (x.2.1) (x.2.2), none⟩] tbx k Tryz.f5 J9 [.d kPl] [.bool] a0 = Qx k QB Qn Zn ZI qZ jY Qo Qv Qi qn qL Jo a0 := by kernel_rfl
def Zk (k : Nat) (a0 : TPl) : Option Bool := Qx k (jk k) (qz k) (jH k) (ZL k) (js k) (qT k) (jG k) (jy k) (jD k) (qo k) (qK k) (Zq k) a0
theorem XL (k : Nat) : zv Tryz.prog 5 [.d kPl] [.bool] (fun x => Zk k x) := fun x y h => zh zs0 mix (zo.cons (ze.of rfl (zb3 k)) (zo.cons (ze.of rfl (zbC k)) (zo.cons (ze.of rfl (zbN k)) (zo.cons (ze.of rfl (zc8 k)) (zo.cons (ze.of rfl (Y7 k)) (zo.cons (ze.of rfl (Xq k)) (zo.cons (ze.of rfl (zbH k)) (zo.cons (ze.of rfl (zbI k)) (zo.cons (ze.of rfl (zbJ k)) (zo.cons (ze.of rfl (Jk k)) (zo.cons (ze.of rfl (KR k)) (zo.cons (ze.of rfl (zds k)) (zo.nil _))))))))))))) Tryz.func5 (N := k) (an := J9) (by kernel_rfl) x y ((za5 k (jk k) (qz k) (jH k) (ZL k) (js k) (qT k) (jG k) (jy k) (jD k) (qo k) (qK k) (Zq k) x).trans h)
end
end Go.Proofs.YtpkkcjmblocjdaaGreat.AM
