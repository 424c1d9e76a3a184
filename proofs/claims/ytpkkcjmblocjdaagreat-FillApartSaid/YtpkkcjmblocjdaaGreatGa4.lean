/- The functions, by their texts: written by a program. -/
import Derived.Test.YtpkkcjmblocjdaaGreatGa3
import Derived.Test.YtpkkcjmblocjdaaGreatCln
set_option linter.unusedVariables false
set_option linter.unusedSimpArgs false
set_option linter.unusedSectionVars false
set_option maxRecDepth 100000
namespace Go.Proofs.YtpkkcjmblocjdaaGreat.AM
open Go.RowKit Go.Proofs
noncomputable section
def zco : Ann := uNn uLf (uNn uLf (uNn uLf (uNn (uNn uLf (uNn (.node none (some [(0, .d kLP), (1, .d kLP), (8, .d kI), (9, .box [.d kPP]), (16, .d (.sl kI)), (17, .d kI), (18, .d kI)]) (uNn uLf (uNn uLf (uNn (uNn (uNn uLf (uNn (uNn (.node (some [(0, .d kLP), (1, .d kLP), (8, .d kI), (9, .box [.d kPP]), (11, .d kI), (16, .d (.sl kI)), (17, .d kI), (18, .d kI), (38, .d .bool)]) none uLf uLf) uLf) uLf)) uLf) uLf))) uLf) uLf)) (uNn uLf (uNn (uNn (.node (some [(9, .box [.d kPP]), (12, .d (.sl (.pair kPP kPP))), (72, .d .bool)]) none uLf uLf) uLf) uLf)))))
def XR (k : Nat) (zH : LPt → Option Bool) (Y9 : LPt → LPt → (Int × Unit) → Option ((List (PPt × PPt)) × Bool)) (jP : (List (PPt × PPt)) → PPt → Option Int) (a0 : LPt) (a1 : LPt) (a2 : (List Int)) : Option PPt :=
 zx (α := (LPt × (LPt × (Int × (PPt × ((List Int) × PPt)))))) (fun (x1, x2, x3, x4, x5, x6, x7) next0 =>
 bif decide (x7 < x6) then
 gd (inb x7 x5.length) <|
 zy (α := (LPt × (LPt × (Int × (PPt × (Int × ((List Int) × (Int × (Int × Bool))))))))) (fun (y8, y9, y10, y11, y12, y13, y14, y15, y16) =>
 bif y16 then
 some (0, 2)
 else
 gd (inb y12 y8.length) <|
 gd (inb y12 y8.length) <|
 next0 (y8, y9, y10, (w64 (y11.1 + (rdD (0, 0) y8 y12).1), w64 (y11.2 + (rdD (0, 0) y8 y12).2)), y13, y14, w64 (y15 + 1))) fun j17 =>
 bif decide ((rdD 0 x5 x7) < 0) then
 j17 (x1, x2, x3, (x4.1, x4.2), rdD 0 x5 x7, x5, x6, x7, true)
 else
 bif decide ((rdD 0 x5 x7) ≥ (x1.length : Int)) then
 j17 (x1, x2, x3, (x4.1, x4.2), rdD 0 x5 x7, x5, x6, x7, true)
 else
 gd (inb (rdD 0 x5 x7) x1.length) <|
 bnd (zH [((rdD (0, 0) x1 (rdD 0 x5 x7)).1, (rdD (0, 0) x1 (rdD 0 x5 x7)).2)]) fun r18 =>
 j17 (x1, x2, x3, (x4.1, x4.2), rdD 0 x5 x7, x5, x6, x7, !r18)
 else
 bnd (Y9 x1 x2 (x3, ())) fun r19 =>
 zy (α := (PPt × ((List (PPt × PPt)) × Bool))) (fun (y20, y21, y22) =>
 bif y22 then
 some (0, 2)
 else
 bnd (jP y21 (y20.1, y20.2)) fun r23 =>
 some (r23, 0)) fun j24 =>
 bif !r19.2 then
 j24 ((x4.1, x4.2), r19.1, true)
 else
 bnd (zH [(x4.1, x4.2)]) fun r25 =>
 j24 ((x4.1, x4.2), r19.1, !r25)) k (a0, a1, (a2.length : Int), (0, 0), a2, (a2.length : Int), 0)
theorem zhn (k : Nat) (zH : LPt → Option Bool) (Y9 : LPt → LPt → (Int × Unit) → Option ((List (PPt × PPt)) × Bool)) (jP : (List (PPt × PPt)) → PPt → Option Int) (a0 : LPt) (a1 : LPt) (a2 : (List Int)) : zM [⟨108, [.d kLP], [.bool], fun x => zH x, none⟩, ⟨132, [.d kLP, .d kLP, .fn 133 [(.d kI)] []], [.sl (.pair kPP kPP), .bool], fun x => Y9 (x.1) (x.2.1) (x.2.2), none⟩, ⟨134, [.d (.sl (.pair kPP kPP)), .d kPP], [kI], fun x => jP (x.1) (x.2), none⟩] tb k Tryz.f91 zco [.d kLP, .d kLP, .d (.sl kI)] [kI, kI] (a0, a1, a2) = XR k zH Y9 jP a0 a1 a2 := by kernel_rfl
def jU (k : Nat) (a0 : LPt) (a1 : LPt) (a2 : (List Int)) : Option PPt := XR k (qp k) (Kp k) (ZR k) a0 a1 a2
theorem X2 (k : Nat) : zv Tryz.prog 91 [.d kLP, .d kLP, .d (.sl kI)] [kI, kI] (fun x => jU k (x.1) (x.2.1) (x.2.2)) := fun x y h => zh zN mix (zo.cons (ze.of rfl (jW k)) (zo.cons (ze.of rfl (zgQ k)) (zo.cons (ze.of rfl (zaw k)) (zo.nil _)))) Tryz.func91 (N := k) (an := zco) (by kernel_rfl) x y ((zhn k (qp k) (Kp k) (ZR k) (x.1) (x.2.1) (x.2.2)).trans h)
def zbc : Ann := uLf
def Y0 (k : Nat) (jr : LPt → LPt → (List Int) → Option PPt) (a0 : LPt) (a1 : LPt) (a2 : Int) (a3 : Int) : Option PPt :=
 bnd (jr a0 a1 [a2, a3]) fun r0 =>
 some (r0.1, r0.2)
theorem zgE (k : Nat) (jr : LPt → LPt → (List Int) → Option PPt) (a0 : LPt) (a1 : LPt) (a2 : Int) (a3 : Int) : zM [⟨91, [.d kLP, .d kLP, .d (.sl kI)], [kI, kI], fun x => jr (x.1) (x.2.1) (x.2.2), none⟩] tb k Tryz.f86 zbc [.d kLP, .d kLP, .d kI, .d kI] [kI, kI] (a0, a1, a2, a3) = Y0 k jr a0 a1 a2 a3 := by kernel_rfl
def jz (k : Nat) (a0 : LPt) (a1 : LPt) (a2 : Int) (a3 : Int) : Option PPt := Y0 k (jU k) a0 a1 a2 a3
theorem Xx (k : Nat) : zv Tryz.prog 86 [.d kLP, .d kLP, .d kI, .d kI] [kI, kI] (fun x => jz k (x.1) (x.2.1) (x.2.2.1) (x.2.2.2)) := fun x y h => zh zN mix (zo.cons (ze.of rfl (X2 k)) (zo.nil _)) Tryz.func86 (N := k) (an := zbc) (by kernel_rfl) x y ((zgE k (jU k) (x.1) (x.2.1) (x.2.2.1) (x.2.2.2)).trans h)
def zgp : Ann := uNn uLf (uNn (uNn uLf (uNn (.node none (some [(1, .box [.d kPl]), (2, .box [.d (.pair kI kPP)]), (8, .d kLP), (9, .d kI), (10, .d kI)]) uLf uLf) uLf)) uLf)
def zeF (k : Nat) (ji : LPt → LPt → Int → Int → Option PPt) (a0 : TPl) : Option (Int × PPt) :=
 zx (α := (TPl × ((Int × PPt) × (LPt × PPt)))) (fun (x1, x2, x3, x4, x5) next0 =>
 bif decide (x5 < x4) then
 gd (inb x5 x3.length) <|
 bnd (ji x1.1 x1.2.1 (rdD (0, 0) x3 x5).1 (rdD (0, 0) x3 x5).2) fun r6 =>
 bif !(decide (r6.1 = 1)) then
 some (7, x5, 0)
 else
 next0 ((x1.1, x1.2.1, x1.2.2), (x2.1, x2.2.1, x2.2.2), x3, x4, w64 (x5 + 1))
 else
 some (0, 0, 0)) k ((a0.1, a0.2.1, a0.2.2), (0, 0, 0), a0.2.2, (a0.2.2.length : Int), 0)
theorem zm5 (k : Nat) (ji : LPt → LPt → Int → Int → Option PPt) (a0 : TPl) : zM [⟨86, [.d kLP, .d kLP, .d kI, .d kI], [kI, kI], fun x => ji (x.1) (x.2.1) (x.2.2.1) (x.2.2.2), none⟩] tb k Tryz.f116 zgp [.d kPl] [.pair kI kPP] a0 = zeF k ji a0 := by kernel_rfl
def Xn (k : Nat) (a0 : TPl) : Option (Int × PPt) := zeF k (jz k) a0
theorem ziL (k : Nat) : zv Tryz.prog 116 [.d kPl] [.pair kI kPP] (fun x => Xn k x) := fun x y h => zh zN mix (zo.cons (ze.of rfl (Xx k)) (zo.nil _)) Tryz.func116 (N := k) (an := zgp) (by kernel_rfl) x y ((zm5 k (jz k) x).trans h)
def zeM : Ann := uLf
def Kv (k : Nat) (a0 : PPt) : Option PPt :=
 some (a0.1, a0.2)
theorem zjN (k : Nat) (a0 : PPt) : zM [] tb k Tryz.f173 zeM [.d kPP] [.pair kI kI] a0 = Kv k a0 := by kernel_rfl
theorem zgS (k : Nat) : zv Tryz.prog 173 [.d kPP] [.pair kI kI] (fun x => Kv k x) := fun x y h => zh zN mix (zo.nil _) Tryz.func173 (N := k) (an := zeM) (by kernel_rfl) x y ((zjN k x).trans h)
def zb5 : Ann := uNn uLf (uNn uLf (uNn (uNn uLf (uNn (.node none (some [(0, .d kLP), (2, .fn 173 [] []), (8, .row (.pair kPP kPP) 177), (13, .d kLP), (14, .d kI), (15, .d kI)]) (uNn uLf (uNn uLf (uNn (uNn (uNn uLf (uNn (uNn (.node (some [(0, .d kLP), (2, .fn 173 [] []), (8, .row (.pair kPP kPP) 177), (10, .box [.d kPP]), (13, .d kLP), (14, .d kI), (15, .d kI), (68, .d .bool)]) none uLf uLf) uLf) uLf)) uLf) uLf))) uLf) uLf)) uLf))
def XQ (k : Nat) (zH : LPt → Option Bool) (Kk : PPt → Option PPt) (a0 : LPt) (a1 : LPt) (a2 : (Unit × Unit)) : Option ((List (PPt × PPt)) × Bool) :=
 zx (α := (LPt × ((Unit × Unit) × ((List (PPt × PPt)) × (LPt × PPt))))) (fun (x1, x2, x3, x4, x5, x6) next0 =>
 bif decide (x6 < x5) then
 gd (inb x6 x4.length) <|
 zy (α := (LPt × ((Unit × Unit) × ((List (PPt × PPt)) × (PPt × (LPt × (Int × (Int × Bool)))))))) (fun (y7, y8, y9, y10, y11, y12, y13, y14) =>
 bif y14 then
 some ([], false)
 else
 gd (inb y10.1 y7.length) <|
 bnd (Kk ((rdD (0, 0) y7 y10.1).1, (rdD (0, 0) y7 y10.1).2)) fun r15 =>
 gd (inb y10.2 y7.length) <|
 bnd (Kk ((rdD (0, 0) y7 y10.2).1, (rdD (0, 0) y7 y10.2).2)) fun r16 =>
 bnd (zH [(r15.1, r15.2), (r16.1, r16.2)]) fun r17 =>
 bif !r17 then
 some ([], false)
 else
 gd (few (y9.length + 1)) <|
 next0 (y7, ((), ()), y9 ++ [((r15.1, r15.2), r16.1, r16.2)], y11, y12, w64 (y13 + 1))) fun j18 =>
 bif decide ((rdD (0, 0) x4 x6).1 < 0) then
 j18 (x1, ((), ()), x3, ((rdD (0, 0) x4 x6).1, (rdD (0, 0) x4 x6).2), x4, x5, x6, true)
 else
 bif decide ((rdD (0, 0) x4 x6).1 ≥ (x1.length : Int)) then
 j18 (x1, ((), ()), x3, ((rdD (0, 0) x4 x6).1, (rdD (0, 0) x4 x6).2), x4, x5, x6, true)
 else
 bif decide ((rdD (0, 0) x4 x6).2 < 0) then
 j18 (x1, ((), ()), x3, ((rdD (0, 0) x4 x6).1, (rdD (0, 0) x4 x6).2), x4, x5, x6, true)
 else
 bif decide ((rdD (0, 0) x4 x6).2 ≥ (x1.length : Int)) then
 j18 (x1, ((), ()), x3, ((rdD (0, 0) x4 x6).1, (rdD (0, 0) x4 x6).2), x4, x5, x6, true)
 else
 gd (inb (rdD (0, 0) x4 x6).1 x1.length) <|
 gd (inb (rdD (0, 0) x4 x6).2 x1.length) <|
 bif (decide ((rdD (0, 0) x1 (rdD (0, 0) x4 x6).1).1 = (rdD (0, 0) x1 (rdD (0, 0) x4 x6).2).1)) && (decide ((rdD (0, 0) x1 (rdD (0, 0) x4 x6).1).2 = (rdD (0, 0) x1 (rdD (0, 0) x4 x6).2).2)) then
 j18 (x1, ((), ()), x3, ((rdD (0, 0) x4 x6).1, (rdD (0, 0) x4 x6).2), x4, x5, x6, true)
 else
 gd (inb (rdD (0, 0) x4 x6).1 x1.length) <|
 gd (inb (rdD (0, 0) x4 x6).2 x1.length) <|
 bnd (zH [((rdD (0, 0) x1 (rdD (0, 0) x4 x6).1).1, (rdD (0, 0) x1 (rdD (0, 0) x4 x6).1).2), ((rdD (0, 0) x1 (rdD (0, 0) x4 x6).2).1, (rdD (0, 0) x1 (rdD (0, 0) x4 x6).2).2)]) fun r19 =>
 j18 (x1, ((), ()), x3, ((rdD (0, 0) x4 x6).1, (rdD (0, 0) x4 x6).2), x4, x5, x6, !r19)
 else
 some (x3, true)) k (a0, ((), ()), [], a1, (a1.length : Int), 0)
theorem zhx (k : Nat) (zH : LPt → Option Bool) (Kk : PPt → Option PPt) (a0 : LPt) (a1 : LPt) (a2 : (Unit × Unit)) : zM [⟨108, [.d kLP], [.bool], fun x => zH x, none⟩, ⟨173, [.d kPP], [.pair kI kI], fun x => Kk x, none⟩] tb k Tryz.f132 zb5 [.d kLP, .d kLP, .fn 173 [] []] [.sl (.pair kPP kPP), .bool] (a0, a1, a2) = XQ k zH Kk a0 a1 a2 := by kernel_rfl
def Q2 (k : Nat) (a0 : LPt) (a1 : LPt) (a2 : (Unit × Unit)) : Option ((List (PPt × PPt)) × Bool) := XQ k (qp k) (Kv k) a0 a1 a2
theorem ze5 (k : Nat) : zv Tryz.prog 132 [.d kLP, .d kLP, .fn 173 [] []] [.sl (.pair kPP kPP), .bool] (fun x => Q2 k (x.1) (x.2.1) (x.2.2)) := fun x y h => zh zN mix (zo.cons (ze.of rfl (jW k)) (zo.cons (ze.of rfl (zgS k)) (zo.nil _))) Tryz.func132 (N := k) (an := zb5) (by kernel_rfl) x y ((zhx k (qp k) (Kv k) (x.1) (x.2.1) (x.2.2)).trans h)
def zgw : Ann := uNn uLf (uNn uLf (uNn (uNn (.node (some [(5, .box [.d kPP]), (8, .d (.sl (.pair kPP kPP))), (23, .d .bool)]) none uLf uLf) uLf) uLf))
def zdM (k : Nat) (KE : LPt → LPt → (Unit × Unit) → Option ((List (PPt × PPt)) × Bool)) (zH : LPt → Option Bool) (jP : (List (PPt × PPt)) → PPt → Option Int) (a0 : LPt) (a1 : LPt) (a2 : PPt) : Option PPt :=
 bnd (KE a0 a1 ((), ())) fun r0 =>
 zy (α := (PPt × ((List (PPt × PPt)) × Bool))) (fun (y1, y2, y3) =>
 bif y3 then
 some (0, 2)
 else
 bnd (jP y2 (y1.1, y1.2)) fun r4 =>
 some (r4, 0)) fun j5 =>
 bif !r0.2 then
 j5 ((a2.1, a2.2), r0.1, true)
 else
 bnd (zH [(a2.1, a2.2)]) fun r6 =>
 j5 ((a2.1, a2.2), r0.1, !r6)
theorem zne (k : Nat) (KE : LPt → LPt → (Unit × Unit) → Option ((List (PPt × PPt)) × Bool)) (zH : LPt → Option Bool) (jP : (List (PPt × PPt)) → PPt → Option Int) (a0 : LPt) (a1 : LPt) (a2 : PPt) : zM [⟨132, [.d kLP, .d kLP, .fn 173 [] []], [.sl (.pair kPP kPP), .bool], fun x => KE (x.1) (x.2.1) (x.2.2), none⟩, ⟨108, [.d kLP], [.bool], fun x => zH x, none⟩, ⟨134, [.d (.sl (.pair kPP kPP)), .d kPP], [kI], fun x => jP (x.1) (x.2), none⟩] tb k Tryz.f153 zgw [.d kLP, .d kLP, .d kPP] [kI, kI] (a0, a1, a2) = zdM k KE zH jP a0 a1 a2 := by kernel_rfl
def KV (k : Nat) (a0 : LPt) (a1 : LPt) (a2 : PPt) : Option PPt := zdM k (Q2 k) (qp k) (ZR k) a0 a1 a2
theorem ziG (k : Nat) : zv Tryz.prog 153 [.d kLP, .d kLP, .d kPP] [kI, kI] (fun x => KV k (x.1) (x.2.1) (x.2.2)) := fun x y h => zh zN mix (zo.cons (ze.of rfl (ze5 k)) (zo.cons (ze.of rfl (jW k)) (zo.cons (ze.of rfl (zaw k)) (zo.nil _)))) Tryz.func153 (N := k) (an := zgw) (by kernel_rfl) x y ((zne k (Q2 k) (qp k) (ZR k) (x.1) (x.2.1) (x.2.2)).trans h)
def zee : Ann := uNn uLf (uNn uLf (uNn (uNn uLf (uNn (.node none (some [(1, .box [.d kPl]), (2, .box [.d (.pair kI kPP)]), (18, .d (.sl kI)), (19, .d kI), (20, .d kI)]) (uNn uLf (uNn uLf (uNn (uNn (uNn uLf (uNn uLf (uNn (.node (some [(1, .box [.d kPl]), (2, .box [.d (.pair kI kPP)]), (5, .d kI), (18, .d (.sl kI)), (19, .d kI), (20, .d kI), (43, .d .bool)]) none uLf uLf) uLf))) uLf) uLf))) uLf) uLf)) uLf))
def zbM (k : Nat) (qy : TPl → Option LPt) (jt : Int → LPt → Option ((List Int) × Int)) (za9 : LPt → LPt → PPt → Option PPt) (a0 : TPl) : Option (Int × PPt) :=
 bnd (qy (a0.1, a0.2.1, a0.2.2)) fun r0 =>
 bnd (jt (a0.1.length : Int) r0) fun r1 =>
 zx (α := (TPl × ((Int × PPt) × ((List Int) × PPt)))) (fun (x3, x4, x5, x6, x7) next2 =>
 bif decide (x7 < x6) then
 gd (inb x7 x5.length) <|
 gd (inb x7 x3.1.length) <|
 bnd (za9 x3.1 x3.2.1 ((rdD (0, 0) x3.1 x7).1, (rdD (0, 0) x3.1 x7).2)) fun r8 =>
 zy (α := (TPl × ((Int × PPt) × (Int × ((List Int) × (Int × (Int × Bool))))))) (fun (y9, y10, y11, y12, y13, y14, y15) =>
 bif y15 then
 some (8, y11, 0)
 else
 next2 ((y9.1, y9.2.1, y9.2.2), (y10.1, y10.2.1, y10.2.2), y12, y13, w64 (y14 + 1))) fun j16 =>
 bif decide ((rdD 0 x5 x7) = 0) then
 j16 ((x3.1, x3.2.1, x3.2.2), (x4.1, x4.2.1, x4.2.2), x7, x5, x6, x7, !(decide (r8.1 = 1)))
 else
 j16 ((x3.1, x3.2.1, x3.2.2), (x4.1, x4.2.1, x4.2.2), x7, x5, x6, x7, false)
 else
 some (0, 0, 0)) k ((a0.1, a0.2.1, a0.2.2), (0, 0, 0), r1.1, (r1.1.length : Int), 0)
theorem zjS (k : Nat) (qy : TPl → Option LPt) (jt : Int → LPt → Option ((List Int) × Int)) (za9 : LPt → LPt → PPt → Option PPt) (a0 : TPl) : zM [⟨148, [.d kPl], [.sl kPP], fun x => qy x, none⟩, ⟨152, [.d kI, .d kLP], [.sl kI, kI], fun x => jt (x.1) (x.2), none⟩, ⟨153, [.d kLP, .d kLP, .d kPP], [kI, kI], fun x => za9 (x.1) (x.2.1) (x.2.2), none⟩] tb k Tryz.f117 zee [.d kPl] [.pair kI kPP] a0 = zbM k qy jt za9 a0 := by kernel_rfl
def Ko (k : Nat) (a0 : TPl) : Option (Int × PPt) := zbM k (qX k) (jT k) (KV k) a0
theorem zgU (k : Nat) : zv Tryz.prog 117 [.d kPl] [.pair kI kPP] (fun x => Ko k x) := fun x y h => zh zN mix (zo.cons (ze.of rfl (KC k)) (zo.cons (ze.of rfl (XY k)) (zo.cons (ze.of rfl (ziG k)) (zo.nil _)))) Tryz.func117 (N := k) (an := zee) (by kernel_rfl) x y ((zjS k (qX k) (jT k) (KV k) x).trans h)
def zdU : Ann := uNn uLf (uNn uLf (uNn (uNn uLf (uNn (.node none (some [(1, .box [.d kPl]), (2, .box [.d (.pair kI kPP)]), (14, .con [111, 112, 113, 114, 115, 116, 117]), (15, .d kI)]) (uNn uLf (uNn uLf (uNn (uNn (uNn uLf (uNn (.node (some [(1, .box [.d kPl]), (2, .box [.d (.pair kI kPP)]), (7, .box [.d (.pair kI kPP)]), (14, .con [111, 112, 113, 114, 115, 116, 117]), (15, .d kI)]) none uLf uLf) uLf)) uLf) uLf))) uLf) uLf)) uLf))
def zbO (k : Nat) (Xh : TPl → Option Int) (Xj : TPl → Option (Int × PPt)) (Xg : TPl → Option (Int × PPt)) (Xa : TPl → Option (Int × PPt)) (Yv : TPl → Option (Int × PPt)) (zaq : TPl → Option (Int × PPt)) (zbj : TPl → Option (Int × PPt)) (Xd : TPl → Option (Int × PPt)) (a0 : TPl) : Option ((Int × PPt) × Int) :=
 bnd (Xh (a0.1, a0.2.1, a0.2.2)) fun r0 =>
 bif !(decide (r0 = 0)) then
 some ((0, 0, 0), r0)
 else
 zx (α := (TPl × ((Int × PPt) × (Unit × Int)))) (fun (x2, x3, x4, x5) next1 =>
 bif decide (x5 < 7) then
 bif decide (x5 = 0) then
 zy (α := (TPl × ((Int × PPt) × ((Int × PPt) × (Unit × Int))))) (fun (y6, y7, y8, y9, y10) =>
 bif !(decide (y8.1 = 0)) then
 some ((y8.1, y8.2.1, y8.2.2), 0)
 else
 next1 ((y6.1, y6.2.1, y6.2.2), (y7.1, y7.2.1, y7.2.2), (), w64 (y10 + 1))) fun j11 =>
 bnd (Xj (x2.1, x2.2.1, x2.2.2)) fun r12 =>
 j11 ((x2.1, x2.2.1, x2.2.2), (x3.1, x3.2.1, x3.2.2), (r12.1, r12.2.1, r12.2.2), (), x5)
 else
 bif decide (x5 = 1) then
 zy (α := (TPl × ((Int × PPt) × ((Int × PPt) × (Unit × Int))))) (fun (y13, y14, y15, y16, y17) =>
 bif !(decide (y15.1 = 0)) then
 some ((y15.1, y15.2.1, y15.2.2), 0)
 else
 next1 ((y13.1, y13.2.1, y13.2.2), (y14.1, y14.2.1, y14.2.2), (), w64 (y17 + 1))) fun j18 =>
 bnd (Xg (x2.1, x2.2.1, x2.2.2)) fun r19 =>
 j18 ((x2.1, x2.2.1, x2.2.2), (x3.1, x3.2.1, x3.2.2), (r19.1, r19.2.1, r19.2.2), (), x5)
 else
 bif decide (x5 = 2) then
 zy (α := (TPl × ((Int × PPt) × ((Int × PPt) × (Unit × Int))))) (fun (y20, y21, y22, y23, y24) =>
 bif !(decide (y22.1 = 0)) then
 some ((y22.1, y22.2.1, y22.2.2), 0)
 else
 next1 ((y20.1, y20.2.1, y20.2.2), (y21.1, y21.2.1, y21.2.2), (), w64 (y24 + 1))) fun j25 =>
 bnd (Xa (x2.1, x2.2.1, x2.2.2)) fun r26 =>
 j25 ((x2.1, x2.2.1, x2.2.2), (x3.1, x3.2.1, x3.2.2), (r26.1, r26.2.1, r26.2.2), (), x5)
 else
 bif decide (x5 = 3) then
 zy (α := (TPl × ((Int × PPt) × ((Int × PPt) × (Unit × Int))))) (fun (y27, y28, y29, y30, y31) =>
 bif !(decide (y29.1 = 0)) then
 some ((y29.1, y29.2.1, y29.2.2), 0)
 else
 next1 ((y27.1, y27.2.1, y27.2.2), (y28.1, y28.2.1, y28.2.2), (), w64 (y31 + 1))) fun j32 =>
 bnd (Yv (x2.1, x2.2.1, x2.2.2)) fun r33 =>
 j32 ((x2.1, x2.2.1, x2.2.2), (x3.1, x3.2.1, x3.2.2), (r33.1, r33.2.1, r33.2.2), (), x5)
 else
 bif decide (x5 = 4) then
 zy (α := (TPl × ((Int × PPt) × ((Int × PPt) × (Unit × Int))))) (fun (y34, y35, y36, y37, y38) =>
 bif !(decide (y36.1 = 0)) then
 some ((y36.1, y36.2.1, y36.2.2), 0)
 else
 next1 ((y34.1, y34.2.1, y34.2.2), (y35.1, y35.2.1, y35.2.2), (), w64 (y38 + 1))) fun j39 =>
 bnd (zaq (x2.1, x2.2.1, x2.2.2)) fun r40 =>
 j39 ((x2.1, x2.2.1, x2.2.2), (x3.1, x3.2.1, x3.2.2), (r40.1, r40.2.1, r40.2.2), (), x5)
 else
 bif decide (x5 = 5) then
 zy (α := (TPl × ((Int × PPt) × ((Int × PPt) × (Unit × Int))))) (fun (y41, y42, y43, y44, y45) =>
 bif !(decide (y43.1 = 0)) then
 some ((y43.1, y43.2.1, y43.2.2), 0)
 else
 next1 ((y41.1, y41.2.1, y41.2.2), (y42.1, y42.2.1, y42.2.2), (), w64 (y45 + 1))) fun j46 =>
 bnd (zbj (x2.1, x2.2.1, x2.2.2)) fun r47 =>
 j46 ((x2.1, x2.2.1, x2.2.2), (x3.1, x3.2.1, x3.2.2), (r47.1, r47.2.1, r47.2.2), (), x5)
 else
 bif decide (x5 = 6) then
 zy (α := (TPl × ((Int × PPt) × ((Int × PPt) × (Unit × Int))))) (fun (y48, y49, y50, y51, y52) =>
 bif !(decide (y50.1 = 0)) then
 some ((y50.1, y50.2.1, y50.2.2), 0)
 else
 next1 ((y48.1, y48.2.1, y48.2.2), (y49.1, y49.2.1, y49.2.2), (), w64 (y52 + 1))) fun j53 =>
 bnd (Xd (x2.1, x2.2.1, x2.2.2)) fun r54 =>
 j53 ((x2.1, x2.2.1, x2.2.2), (x3.1, x3.2.1, x3.2.2), (r54.1, r54.2.1, r54.2.2), (), x5)
 else
 none
 else
 some ((0, 0, 0), 0)) k ((a0.1, a0.2.1, a0.2.2), (0, 0, 0), (), 0)
theorem zkr (k : Nat) (Xh : TPl → Option Int) (Xj : TPl → Option (Int × PPt)) (Xg : TPl → Option (Int × PPt)) (Xa : TPl → Option (Int × PPt)) (Yv : TPl → Option (Int × PPt)) (zaq : TPl → Option (Int × PPt)) (zbj : TPl → Option (Int × PPt)) (Xd : TPl → Option (Int × PPt)) (a0 : TPl) : zM [⟨110, [.d kPl], [kI], fun x => Xh x, none⟩, ⟨111, [.d kPl], [.pair kI kPP], fun x => Xj x, none⟩, ⟨112, [.d kPl], [.pair kI kPP], fun x => Xg x, none⟩, ⟨113, [.d kPl], [.pair kI kPP], fun x => Xa x, none⟩, ⟨114, [.d kPl], [.pair kI kPP], fun x => Yv x, none⟩, ⟨115, [.d kPl], [.pair kI kPP], fun x => zaq x, none⟩, ⟨116, [.d kPl], [.pair kI kPP], fun x => zbj x, none⟩, ⟨117, [.d kPl], [.pair kI kPP], fun x => Xd x, none⟩] tb k Tryz.f82 zdU [.d kPl] [.pair kI kPP, kI] a0 = zbO k Xh Xj Xg Xa Yv zaq zbj Xd a0 := by kernel_rfl
def Q7 (k : Nat) (a0 : TPl) : Option ((Int × PPt) × Int) := zbO k (Ja k) (Kl k) (Kj k) (KA k) (Jz k) (Yh k) (Xn k) (Ko k) a0
theorem zgk (k : Nat) : zv Tryz.prog 82 [.d kPl] [.pair kI kPP, kI] (fun x => Q7 k x) := fun x y h => zh zN mix (zo.cons (ze.of rfl (zgY k)) (zo.cons (ze.of rfl (zg4 k)) (zo.cons (ze.of rfl (zgr k)) (zo.cons (ze.of rfl (zgy k)) (zo.cons (ze.of rfl (zfV k)) (zo.cons (ze.of rfl (zhr k)) (zo.cons (ze.of rfl (ziL k)) (zo.cons (ze.of rfl (zgU k)) (zo.nil _))))))))) Tryz.func82 (N := k) (an := zdU) (by kernel_rfl) x y ((zkr k (Ja k) (Kl k) (Kj k) (KA k) (Jz k) (Yh k) (Xn k) (Ko k) x).trans h)
def zfF : Ann := uNn uLf (uNn uLf (uNn (.node (some [(2, .d .bool)]) none uLf uLf) uLf))
def zc5 (k : Nat) (Xi : TPl → Option ((Int × PPt) × Int)) (a0 : TPl) : Option Bool :=
 bnd (Xi (a0.1, a0.2.1, a0.2.2)) fun r0 =>
 zy (α := Bool) (fun y1 =>
 some y1) fun j2 =>
 bif decide (r0.2 = 0) then
 j2 (decide (r0.1.1 = 0))
 else
 j2 false
theorem zkO (k : Nat) (Xi : TPl → Option ((Int × PPt) × Int)) (a0 : TPl) : zM [⟨82, [.d kPl], [.pair kI kPP, kI], fun x => Xi x, none⟩] tb k Tryz.f45 zfF [.d kPl] [.bool] a0 = zc5 k Xi a0 := by kernel_rfl
def J6 (k : Nat) (a0 : TPl) : Option Bool := zc5 k (Q7 k) a0
theorem zhv (k : Nat) : zv Tryz.prog 45 [.d kPl] [.bool] (fun x => J6 k x) := fun x y h => zh zN mix (zo.cons (ze.of rfl (zgk k)) (zo.nil _)) Tryz.func45 (N := k) (an := zfF) (by kernel_rfl) x y ((zkO k (Q7 k) x).trans h)
def zj5 : Ann := uNn uLf (uNn uLf (uNn (uNn uLf (uNn (.node none (some [(0, .d (.sl kLP)), (3, .d kI), (9, .d (.sl kLP)), (10, .d kI), (11, .d kI)]) (uNn uLf (uNn uLf (uNn (uNn (uNn uLf (uNn uLf (uNn uLf (.node (some [(0, .d (.sl kLP)), (3, .d kI), (9, .d (.sl kLP)), (10, .d kI), (11, .d kI)]) none uLf uLf)))) uLf) uLf))) uLf) uLf)) (uNn uLf (uNn (uNn uLf (uNn (.node none (some [(6, .row kPP 60), (25, .d (.sl kLP)), (26, .d kI), (27, .d kI)]) uLf uLf) uLf)) uLf))))
def YZ (k : Nat) (a0 : (List LPt)) : Option LPt :=
 zx (α := ((List LPt) × (Int × ((List LPt) × PPt)))) (fun (x1, x2, x3, x4, x5) next0 =>
 bif decide (x5 < x4) then
 gd (inb x5 x3.length) <|
 zy (α := ((List LPt) × (Int × ((List LPt) × PPt)))) (fun (y6, y7, y8, y9, y10) =>
 next0 (y6, y7, y8, y9, w64 (y10 + 1))) fun j11 =>
 bif decide ((w64 (x2 + ((rdD [] x3 x5).length : Int))) < 0) then
 none
 else
 j11 (x1, w64 (x2 + ((rdD [] x3 x5).length : Int)), x3, x4, x5)
 else
 gd (decide (0 ≤ x2)) <|
 gd (zgq x2) <|
 zx (α := (LPt × ((List LPt) × PPt))) (fun (x13, x14, x15, x16) next12 =>
 bif decide (x16 < x15) then
 gd (inb x16 x14.length) <|
 gd (few (x13.length + (rdD [] x14 x16).length)) <|
 next12 (x13 ++ (rdD [] x14 x16), x14, x15, w64 (x16 + 1))
 else
 some x13) k ([], x1, (x1.length : Int), 0)) k (a0, 0, a0, (a0.length : Int), 0)
theorem zoI (k : Nat) (a0 : (List LPt)) : zM [⟨118, [], [], fun _ => none, some (.grw kPP 60)⟩] tb k Tryz.f83 zj5 [.d (.sl kLP)] [.sl kPP] a0 = YZ k a0 := by kernel_rfl
theorem zfC (k : Nat) : zv Tryz.prog 83 [.d (.sl kLP)] [.sl kPP] (fun x => YZ k x) := fun x y h => zh zN mix (zo.cons (ze.grow zqW) (zo.nil _)) Tryz.func83 (N := k) (an := zj5) (by kernel_rfl) x y ((zoI k x).trans h)
def zjI : Ann := uLf
def Q8 (k : Nat) (a0 : PPt) : Option PPt :=
 some (mnI a0.1 a0.2, mxI a0.1 a0.2)
theorem zpB (k : Nat) (a0 : PPt) : zM [] tb k Tryz.f61 zjI [.d kPP] [.pair kI kI] a0 = Q8 k a0 := by kernel_rfl
theorem zbu (k : Nat) : zv Tryz.prog 61 [.d kPP] [.pair kI kI] (fun x => Q8 k x) := fun x y h => zh zN mix (zo.nil _) Tryz.func61 (N := k) (an := zjI) (by kernel_rfl) x y ((zpB k x).trans h)
def zae : Ann := uNn uLf (uNn uLf (uNn (uNn uLf (uNn (.node none (some [(3, .row kPP 60), (11, .d kLP), (12, .d kI), (13, .d kI)]) uLf uLf) uLf)) uLf))
def zbd (k : Nat) (Y1 : (List LPt) → Option LPt) (Z5 : PPt → Option PPt) (a0 : TPl) : Option LPt :=
 bnd (Y1 [a0.2.1, a0.2.2]) fun r0 =>
 zx (α := (LPt × (LPt × PPt))) (fun (x2, x3, x4, x5) next1 =>
 bif decide (x5 < x4) then
 gd (inb x5 x3.length) <|
 bnd (Z5 ((rdD (0, 0) x3 x5).1, (rdD (0, 0) x3 x5).2)) fun r6 =>
 gd (few (x2.length + 1)) <|
 next1 (x2 ++ [(r6.1, r6.2)], x3, x4, w64 (x5 + 1))
 else
 gd (few x2.length) <|
 some (Y4 JI x2)) k ([], r0, (r0.length : Int), 0)
theorem zmY (k : Nat) (Y1 : (List LPt) → Option LPt) (Z5 : PPt → Option PPt) (a0 : TPl) : zp0 [⟨48, [], [], fun _ => none, some (.srt kPP 49 JI)⟩, ⟨83, [.d (.sl kLP)], [.sl kPP], fun x => Y1 x, none⟩, ⟨61, [.d kPP], [.pair kI kI], fun x => Z5 x, none⟩] tb k Tryz.f46 zae [.d kPl] kPP 60 a0 = zbd k Y1 Z5 a0 := by kernel_rfl
def ZM (k : Nat) (a0 : TPl) : Option LPt := zbd k (YZ k) (Q8 k) a0
theorem ziF (k : Nat) : zfT Tryz.prog 46 [.d kPl] kPP 60 (fun x => ZM k x) := ⟨rfl, rfl, fun x y h => (zj2 zN mix (zo.cons (ze.sort zoL) (zo.cons (ze.of rfl (zfC k)) (zo.cons (ze.of rfl (zbu k)) (zo.nil _)))) Tryz.func46 (N := k) (an := zae) rfl rfl (by kernel_rfl)).2.2 x y ((zmY k (YZ k) (Q8 k) x).trans h)⟩
theorem zk0 (k : Nat) (Y1 : (List LPt) → Option LPt) (Z5 : PPt → Option PPt) (a0 : TPl) : zM [⟨48, [], [], fun _ => none, some (.srt kPP 49 JI)⟩, ⟨83, [.d (.sl kLP)], [.sl kPP], fun x => Y1 x, none⟩, ⟨61, [.d kPP], [.pair kI kI], fun x => Z5 x, none⟩] tb k Tryz.f46 zae [.d kPl] [.sl kPP] a0 = zbd k Y1 Z5 a0 := by kernel_rfl
theorem zg5 (k : Nat) : zv Tryz.prog 46 [.d kPl] [.sl kPP] (fun x => ZM k x) := fun x y h => zh zN mix (zo.cons (ze.sort zoL) (zo.cons (ze.of rfl (zfC k)) (zo.cons (ze.of rfl (zbu k)) (zo.nil _)))) Tryz.func46 (N := k) (an := zae) (by kernel_rfl) x y ((zk0 k (YZ k) (Q8 k) x).trans h)
def zgF : Ann := uNn uLf (uNn (uNn uLf (uNn (.node none (some [(1, .d kLP), (2, .d kI), (3, .d kI), (4, .box [.d kPl]), (18, .d kLP), (19, .d kI), (20, .d kI)]) uLf uLf) uLf)) (uNn (uNn uLf (uNn (.node none (some [(2, .d kI), (3, .d kI), (4, .box [.d kPl]), (37, .d kLP), (38, .d kI), (39, .d kI)]) uLf uLf) uLf)) uLf))
def zeb (k : Nat) (qr : PPt → PPt → PPt → Option Bool) (Qb : PPt → PPt → PPt → PPt → Option PPt) (ji : LPt → LPt → Int → Int → Option PPt) (a0 : TPl) (a1 : LPt) (a2 : Int) (a3 : Int) : Option Bool :=
 zx (α := (LPt × (Int × (Int × (TPl × (LPt × PPt)))))) (fun (x1, x2, x3, x4, x5, x6, x7) next0 =>
 bif decide (x7 < x6) then
 gd (inb x7 x5.length) <|
 gd (inb x2 x4.1.length) <|
 gd (inb x3 x4.1.length) <|
 bnd (qr ((rdD (0, 0) x4.1 x2).1, (rdD (0, 0) x4.1 x2).2) ((rdD (0, 0) x4.1 x3).1, (rdD (0, 0) x4.1 x3).2) ((rdD (0, 0) x5 x7).1, (rdD (0, 0) x5 x7).2)) fun r8 =>
 bif r8 then
 some false
 else
 next0 (x1, x2, x3, (x4.1, x4.2.1, x4.2.2), x5, x6, w64 (x7 + 1))
 else
 zx (α := (Int × (Int × (TPl × (LPt × PPt))))) (fun (x10, x11, x12, x13, x14, x15) next9 =>
 bif decide (x15 < x14) then
 gd (inb x15 x13.length) <|
 gd (inb x10 x12.1.length) <|
 gd (inb x11 x12.1.length) <|
 gd (inb (rdD (0, 0) x13 x15).1 x12.1.length) <|
 gd (inb (rdD (0, 0) x13 x15).2 x12.1.length) <|
 bnd (Qb ((rdD (0, 0) x12.1 x10).1, (rdD (0, 0) x12.1 x10).2) ((rdD (0, 0) x12.1 x11).1, (rdD (0, 0) x12.1 x11).2) ((rdD (0, 0) x12.1 (rdD (0, 0) x13 x15).1).1, (rdD (0, 0) x12.1 (rdD (0, 0) x13 x15).1).2) ((rdD (0, 0) x12.1 (rdD (0, 0) x13 x15).2).1, (rdD (0, 0) x12.1 (rdD (0, 0) x13 x15).2).2)) fun r16 =>
 bif decide (r16.1 > 1) then
 some false
 else
 next9 (x10, x11, (x12.1, x12.2.1, x12.2.2), x13, x14, w64 (x15 + 1))
 else
 bnd (ji x12.1 x12.2.1 x10 x11) fun r17 =>
 some (decide (r17.1 = 1))) k (x2, x3, (x4.1, x4.2.1, x4.2.2), x1, (x1.length : Int), 0)) k (a1, a2, a3, (a0.1, a0.2.1, a0.2.2), a0.1, (a0.1.length : Int), 0)
theorem zl7 (k : Nat) (qr : PPt → PPt → PPt → Option Bool) (Qb : PPt → PPt → PPt → PPt → Option PPt) (ji : LPt → LPt → Int → Int → Option PPt) (a0 : TPl) (a1 : LPt) (a2 : Int) (a3 : Int) : zM [⟨84, [.d kPP, .d kPP, .d kPP], [.bool], fun x => qr (x.1) (x.2.1) (x.2.2), none⟩, ⟨85, [.d kPP, .d kPP, .d kPP, .d kPP], [kI, kI], fun x => Qb (x.1) (x.2.1) (x.2.2.1) (x.2.2.2), none⟩, ⟨86, [.d kLP, .d kLP, .d kI, .d kI], [kI, kI], fun x => ji (x.1) (x.2.1) (x.2.2.1) (x.2.2.2), none⟩] tb k Tryz.f47 zgF [.d kPl, .d kLP, .d kI, .d kI] [.bool] (a0, a1, a2, a3) = zeb k qr Qb ji a0 a1 a2 a3 := by kernel_rfl
def KQ (k : Nat) (a0 : TPl) (a1 : LPt) (a2 : Int) (a3 : Int) : Option Bool := zeb k (jq k) (Qs k) (jz k) a0 a1 a2 a3
theorem ziK (k : Nat) : zv Tryz.prog 47 [.d kPl, .d kLP, .d kI, .d kI] [.bool] (fun x => KQ k (x.1) (x.2.1) (x.2.2.1) (x.2.2.2)) := fun x y h => zh zN mix (zo.cons (ze.of rfl (K7 k)) (zo.cons (ze.of rfl (zdf k)) (zo.cons (ze.of rfl (Xx k)) (zo.nil _)))) Tryz.func47 (N := k) (an := zgF) (by kernel_rfl) x y ((zl7 k (jq k) (Qs k) (jz k) (x.1) (x.2.1) (x.2.2.1) (x.2.2.2)).trans h)
def zfo : Ann := uNn uLf (uNn uLf (uNn uLf (uNn (uNn uLf (uNn (.node none (some [(1, .box [.d kPl]), (4, .row kPP 60), (14, .d kI), (15, .d kI)]) (uNn uLf (uNn uLf (uNn (uNn (uNn uLf (uNn uLf (uNn (.node none (some [(1, .box [.d kPl]), (4, .row kPP 60), (5, .d kI), (6, .d kI), (14, .d kI), (15, .d kI)]) (uNn uLf (uNn (uNn (uNn uLf (.node (some [(1, .box [.d kPl]), (4, .row kPP 60), (5, .d kI), (6, .d kI), (14, .d kI), (15, .d kI)]) none uLf uLf)) uLf) uLf)) uLf) uLf))) uLf) uLf))) uLf) uLf)) uLf)))
def zcA (k : Nat) (zai : TPl → Option Bool) (Qf : TPl → Option LPt) (zbi : TPl → LPt → Int → Int → Option Bool) (a0 : TPl) : Option (LPt × Int) :=
 bnd (zai (a0.1, a0.2.1, a0.2.2)) fun r0 =>
 bif !r0 then
 some ([], 2)
 else
 bnd (Qf (a0.1, a0.2.1, a0.2.2)) fun r1 =>
 zx (α := (TPl × (LPt × PPt))) (fun (x3, x4, x5, x6) next2 =>
 bif decide (x6 < x5) then
 zx (α := (TPl × (LPt × (Int × (Int × PPt))))) (fun (x8, x9, x10, x11, x12, x13) next7 =>
 bif decide (x11 < (x8.1.length : Int)) then
 bnd (zbi (x8.1, x8.2.1, x8.2.2) x9 x10 x11) fun r14 =>
 zy (α := (TPl × (LPt × (Int × (Int × PPt))))) (fun (y15, y16, y17, y18, y19, y20) =>
 next7 ((y15.1, y15.2.1, y15.2.2), y16, y17, w64 (y18 + 1), y19, y20)) fun j21 =>
 bif r14 then
 gd (few (x9.length + 1)) <|
 j21 ((x8.1, x8.2.1, x8.2.2), x9 ++ [(x10, x11)], x10, x11, x12, x13)
 else
 j21 ((x8.1, x8.2.1, x8.2.2), x9, x10, x11, x12, x13)
 else
 next2 ((x8.1, x8.2.1, x8.2.2), x9, x12, w64 (x13 + 1))) k ((x3.1, x3.2.1, x3.2.2), x4, x6, w64 (x6 + 1), x5, x6)
 else
 gd (few x4.length) <|
 some (Y4 JI x4, 0)) k ((a0.1, a0.2.1, a0.2.2), r1, (a0.1.length : Int), 0)
theorem zkG (k : Nat) (zai : TPl → Option Bool) (Qf : TPl → Option LPt) (zbi : TPl → LPt → Int → Int → Option Bool) (a0 : TPl) : zM [⟨48, [], [], fun _ => none, some (.srt kPP 49 JI)⟩, ⟨45, [.d kPl], [.bool], fun x => zai x, none⟩, ⟨46, [], [], fun _ => none, some (.own [.d kPl] kPP 60 fun x => Qf x)⟩, ⟨47, [.d kPl, .d kLP, .d kI, .d kI], [.bool], fun x => zbi (x.1) (x.2.1) (x.2.2.1) (x.2.2.2), none⟩] tb k Tryz.f13 zfo [.d kPl] [.sl kPP, kI] a0 = zcA k zai Qf zbi a0 := by kernel_rfl
def js (k : Nat) (a0 : TPl) : Option (LPt × Int) := zcA k (J6 k) (ZM k) (KQ k) a0
theorem Y7 (k : Nat) : zv Tryz.prog 13 [.d kPl] [.sl kPP, kI] (fun x => js k x) := fun x y h => zh zN mix (zo.cons (ze.sort zoL) (zo.cons (ze.of rfl (zhv k)) (zo.cons (ze.own (ziF k)) (zo.cons (ze.of rfl (ziK k)) (zo.nil _))))) Tryz.func13 (N := k) (an := zfo) (by kernel_rfl) x y ((zkG k (J6 k) (ZM k) (KQ k) x).trans h)
def zie : Ann := uNn uLf (uNn (uNn uLf (uNn (.node none (some [(0, .d kLP), (1, .d kI), (2, .d kI), (3, .d kI), (8, .box [.d (.pair kI kPP)]), (15, .d (.pair kI kPP)), (16, .d kI)]) (uNn uLf (uNn uLf (uNn (uNn (uNn (.node (some [(0, .d kLP), (1, .d kI), (2, .d kI), (3, .d kI), (8, .box [.d (.pair kI kPP)]), (11, .d kI), (15, .d (.pair kI kPP)), (16, .d kI)]) none uLf uLf) (uNn (.node (some [(0, .d kLP), (1, .d kI), (2, .d kI), (3, .d kI), (8, .box [.d (.pair kI kPP)]), (15, .d (.pair kI kPP)), (16, .d kI), (26, .d .bool)]) none uLf uLf) uLf)) uLf) uLf))) uLf) uLf)) (uNn (uNn uLf (uNn (uNn uLf (uNn uLf (uNn uLf (.node (some [(1, .d kI), (2, .d kI), (3, .d kI), (8, .box [.d (.pair kI kPP)])]) none uLf uLf)))) uLf)) (uNn (uNn (.node none (some [(1, .d kI), (2, .d kI), (3, .d kI), (8, .box [.d (.pair kI kPP)])]) (uNn (uNn (.node (some [(1, .d kI), (2, .d kI), (3, .d kI), (8, .box [.d (.pair kI kPP)]), (56, .d .bool)]) none uLf uLf) uLf) uLf) uLf) uLf) uLf)))
def zgd (k : Nat) (zU : PPt → PPt → PPt → Option Int) (a0 : LPt) (a1 : Int) (a2 : Int) (a3 : Int) : Option ((Int × PPt) × Bool) :=
 zx (α := (LPt × (Int × (Int × (Int × ((Int × PPt) × ((Int × PPt) × Int))))))) (fun (x1, x2, x3, x4, x5, x6, x7) next0 =>
 bif decide (x7 < 3) then
 zy (α := (LPt × (Int × (Int × (Int × ((Int × PPt) × (Int × ((Int × PPt) × Int)))))))) (fun (y8, y9, y10, y11, y12, y13, y14, y15) =>
 zy (α := (LPt × (Int × (Int × (Int × ((Int × PPt) × ((Int × PPt) × (Int × Bool)))))))) (fun (y16, y17, y18, y19, y20, y21, y22, y23) =>
 bif y23 then
 some ((0, 0, 0), false)
 else
 next0 (y16, y17, y18, y19, (y20.1, y20.2.1, y20.2.2), (y21.1, y21.2.1, y21.2.2), w64 (y22 + 1))) fun j24 =>
 bif decide (y13 < 0) then
 j24 (y8, y9, y10, y11, (y12.1, y12.2.1, y12.2.2), (y14.1, y14.2.1, y14.2.2), y15, true)
 else
 j24 (y8, y9, y10, y11, (y12.1, y12.2.1, y12.2.2), (y14.1, y14.2.1, y14.2.2), y15, decide (y13 ≥ (y8.length : Int)))) fun j25 =>
 bif decide (x7 = 0) then
 j25 (x1, x2, x3, x4, (x5.1, x5.2.1, x5.2.2), x6.1, (x6.1, x6.2.1, x6.2.2), x7)
 else
 bif decide (x7 = 1) then
 j25 (x1, x2, x3, x4, (x5.1, x5.2.1, x5.2.2), x6.2.1, (x6.1, x6.2.1, x6.2.2), x7)
 else
 bif decide (x7 = 2) then
 j25 (x1, x2, x3, x4, (x5.1, x5.2.1, x5.2.2), x6.2.2, (x6.1, x6.2.1, x6.2.2), x7)
 else
 none
 else
 gd (inb x2 x1.length) <|
 gd (inb x3 x1.length) <|
 gd (inb x4 x1.length) <|
 bnd (zU ((rdD (0, 0) x1 x2).1, (rdD (0, 0) x1 x2).2) ((rdD (0, 0) x1 x3).1, (rdD (0, 0) x1 x3).2) ((rdD (0, 0) x1 x4).1, (rdD (0, 0) x1 x4).2)) fun r26 =>
 bif decide (r26 = 0) then
 some ((0, 0, 0), false)
 else
 zy (α := (Int × (Int × (Int × (Int × PPt))))) (fun (y27, y28, y29, y30, y31, y32) =>
 zx (α := (Int × (Int × (Int × (Int × PPt))))) (fun (x34, x35, x36, x37, x38, x39) next33 =>
 zy (α := (Int × (Int × (Int × ((Int × PPt) × Bool))))) (fun (y40, y41, y42, y43, y44) =>
 bif y44 then
 next33 (y41, y42, y40, y43.1, y43.2.1, y43.2.2)
 else
 some ((y40, y41, y42), true)) fun j45 =>
 bif decide (x34 > x35) then
 j45 (x34, x35, x36, (x37, x38, x39), true)
 else
 j45 (x34, x35, x36, (x37, x38, x39), decide (x34 > x36))) k (y27, y28, y29, y30, y31, y32)) fun j46 =>
 bif decide (r26 = (-1)) then
 j46 (x2, x4, x3, x5.1, x5.2.1, x5.2.2)
 else
 j46 (x2, x3, x4, x5.1, x5.2.1, x5.2.2)) k (a0, a1, a2, a3, (0, 0, 0), (a1, a2, a3), 0)
theorem znQ (k : Nat) (zU : PPt → PPt → PPt → Option Int) (a0 : LPt) (a1 : Int) (a2 : Int) (a3 : Int) : zM [⟨81, [.d kPP, .d kPP, .d kPP], [kI], fun x => zU (x.1) (x.2.1) (x.2.2), none⟩] tb k Tryz.f40 zie [.d kLP, .d kI, .d kI, .d kI] [.pair kI kPP, .bool] (a0, a1, a2, a3) = zgd k zU a0 a1 a2 a3 := by kernel_rfl
def ZX (k : Nat) (a0 : LPt) (a1 : Int) (a2 : Int) (a3 : Int) : Option ((Int × PPt) × Bool) := zgd k (qH k) a0 a1 a2 a3
theorem zd0 (k : Nat) : zv Tryz.prog 40 [.d kLP, .d kI, .d kI, .d kI] [.pair kI kPP, .bool] (fun x => ZX k (x.1) (x.2.1) (x.2.2.1) (x.2.2.2)) := fun x y h => zh zN mix (zo.cons (ze.of rfl (Qw k)) (zo.nil _)) Tryz.func40 (N := k) (an := zie) (by kernel_rfl) x y ((znQ k (qH k) (x.1) (x.2.1) (x.2.2.1) (x.2.2.2)).trans h)
def zdi : Ann := uLf
def zaR (k : Nat) (jr : LPt → LPt → (List Int) → Option PPt) (a0 : LPt) (a1 : LPt) (a2 : Int) (a3 : Int) (a4 : Int) : Option PPt :=
 bnd (jr a0 a1 [a2, a3, a4]) fun r0 =>
 some (r0.1, r0.2)
theorem ziR (k : Nat) (jr : LPt → LPt → (List Int) → Option PPt) (a0 : LPt) (a1 : LPt) (a2 : Int) (a3 : Int) (a4 : Int) : zM [⟨91, [.d kLP, .d kLP, .d (.sl kI)], [kI, kI], fun x => jr (x.1) (x.2.1) (x.2.2), none⟩] tb k Tryz.f54 zdi [.d kLP, .d kLP, .d kI, .d kI, .d kI] [kI, kI] (a0, a1, a2, a3, a4) = zaR k jr a0 a1 a2 a3 a4 := by kernel_rfl
def Zm (k : Nat) (a0 : LPt) (a1 : LPt) (a2 : Int) (a3 : Int) (a4 : Int) : Option PPt := zaR k (jU k) a0 a1 a2 a3 a4
theorem zfY (k : Nat) : zv Tryz.prog 54 [.d kLP, .d kLP, .d kI, .d kI, .d kI] [kI, kI] (fun x => Zm k (x.1) (x.2.1) (x.2.2.1) (x.2.2.2.1) (x.2.2.2.2)) := fun x y h => zh zN mix (zo.cons (ze.of rfl (X2 k)) (zo.nil _)) Tryz.func54 (N := k) (an := zdi) (by kernel_rfl) x y ((ziR k (jU k) (x.1) (x.2.1) (x.2.2.1) (x.2.2.2.1) (x.2.2.2.2)).trans h)
def zjs : Ann := uNn uLf (uNn (.node (some [(6, .d .bool)]) none uLf uLf) uLf)
def zhP (k : Nat) (zU : PPt → PPt → PPt → Option Int) (a0 : LPt) (a1 : (Int × PPt)) (a2 : PPt) : Option Bool :=
 zy (α := Bool) (fun y0 =>
 some y0) fun j1 =>
 gd (inb a1.1 a0.length) <|
 gd (inb a1.2.1 a0.length) <|
 bnd (zU ((rdD (0, 0) a0 a1.1).1, (rdD (0, 0) a0 a1.1).2) ((rdD (0, 0) a0 a1.2.1).1, (rdD (0, 0) a0 a1.2.1).2) (a2.1, a2.2)) fun r2 =>
 bif decide (r2 ≥ 0) then
 gd (inb a1.2.1 a0.length) <|
 gd (inb a1.2.2 a0.length) <|
 bnd (zU ((rdD (0, 0) a0 a1.2.1).1, (rdD (0, 0) a0 a1.2.1).2) ((rdD (0, 0) a0 a1.2.2).1, (rdD (0, 0) a0 a1.2.2).2) (a2.1, a2.2)) fun r3 =>
 bif decide (r3 ≥ 0) then
 gd (inb a1.2.2 a0.length) <|
 gd (inb a1.1 a0.length) <|
 bnd (zU ((rdD (0, 0) a0 a1.2.2).1, (rdD (0, 0) a0 a1.2.2).2) ((rdD (0, 0) a0 a1.1).1, (rdD (0, 0) a0 a1.1).2) (a2.1, a2.2)) fun r4 =>
 j1 (decide (r4 ≥ 0))
 else
 j1 false
 else
 j1 false
theorem zpg (k : Nat) (zU : PPt → PPt → PPt → Option Int) (a0 : LPt) (a1 : (Int × PPt)) (a2 : PPt) : zM [⟨81, [.d kPP, .d kPP, .d kPP], [kI], fun x => zU (x.1) (x.2.1) (x.2.2), none⟩] tb k Tryz.f92 zjs [.d kLP, .d (.pair kI kPP), .d kPP] [.bool] (a0, a1, a2) = zhP k zU a0 a1 a2 := by kernel_rfl
def zat (k : Nat) (a0 : LPt) (a1 : (Int × PPt)) (a2 : PPt) : Option Bool := zhP k (qH k) a0 a1 a2
theorem zkM (k : Nat) : zv Tryz.prog 92 [.d kLP, .d (.pair kI kPP), .d kPP] [.bool] (fun x => zat k (x.1) (x.2.1) (x.2.2)) := fun x y h => zh zN mix (zo.cons (ze.of rfl (Qw k)) (zo.nil _)) Tryz.func92 (N := k) (an := zjs) (by kernel_rfl) x y ((zpg k (qH k) (x.1) (x.2.1) (x.2.2)).trans h)
def zfD : Ann := uNn uLf (uNn (uNn uLf (uNn (.node none (some [(0, .d kLP), (3, .box [.d (.pair kI kPP)]), (7, .d kLP), (8, .d kI), (9, .d kI)]) (uNn uLf (uNn uLf (uNn (uNn (uNn uLf (uNn (.node (some [(0, .d kLP), (3, .box [.d (.pair kI kPP)]), (7, .d kLP), (8, .d kI), (9, .d kI), (35, .d .bool)]) none uLf uLf) uLf)) uLf) uLf))) uLf) uLf)) uLf)
def zcB (k : Nat) (ze3 : LPt → (Int × PPt) → PPt → Option Bool) (a0 : LPt) (a1 : (Int × PPt)) : Option Bool :=
 zx (α := (LPt × ((Int × PPt) × (LPt × PPt)))) (fun (x1, x2, x3, x4, x5) next0 =>
 bif decide (x5 < x4) then
 gd (inb x5 x3.length) <|
 zy (α := (LPt × ((Int × PPt) × (LPt × (Int × (Int × Bool)))))) (fun (y6, y7, y8, y9, y10, y11) =>
 bif y11 then
 some false
 else
 next0 (y6, (y7.1, y7.2.1, y7.2.2), y8, y9, w64 (y10 + 1))) fun j12 =>
 bif !(decide (x5 = x2.1)) then
 bif !(decide (x5 = x2.2.1)) then
 bif !(decide (x5 = x2.2.2)) then
 bnd (ze3 x1 (x2.1, x2.2.1, x2.2.2) ((rdD (0, 0) x3 x5).1, (rdD (0, 0) x3 x5).2)) fun r13 =>
 j12 (x1, (x2.1, x2.2.1, x2.2.2), x3, x4, x5, r13)
 else
 j12 (x1, (x2.1, x2.2.1, x2.2.2), x3, x4, x5, false)
 else
 j12 (x1, (x2.1, x2.2.1, x2.2.2), x3, x4, x5, false)
 else
 j12 (x1, (x2.1, x2.2.1, x2.2.2), x3, x4, x5, false)
 else
 some true) k (a0, (a1.1, a1.2.1, a1.2.2), a0, (a0.length : Int), 0)
theorem zkN (k : Nat) (ze3 : LPt → (Int × PPt) → PPt → Option Bool) (a0 : LPt) (a1 : (Int × PPt)) : zM [⟨92, [.d kLP, .d (.pair kI kPP), .d kPP], [.bool], fun x => ze3 (x.1) (x.2.1) (x.2.2), none⟩] tb k Tryz.f55 zfD [.d kLP, .d (.pair kI kPP)] [.bool] (a0, a1) = zcB k ze3 a0 a1 := by kernel_rfl
def ZH (k : Nat) (a0 : LPt) (a1 : (Int × PPt)) : Option Bool := zcB k (zat k) a0 a1
theorem zhF (k : Nat) : zv Tryz.prog 55 [.d kLP, .d (.pair kI kPP)] [.bool] (fun x => ZH k (x.1) (x.2)) := fun x y h => zh zN mix (zo.cons (ze.of rfl (zkM k)) (zo.nil _)) Tryz.func55 (N := k) (an := zfD) (by kernel_rfl) x y ((zkN k (zat k) (x.1) (x.2)).trans h)
def zhj : Ann := uNn uLf (uNn uLf (uNn uLf (uNn uLf (uNn (uNn uLf (uNn (.node none (some [(1, .box [.d kPl]), (2, .box [.row kPP 44, .row (.pair kI kPP) 56, .row kPP 60]), (4, .d kLP), (6, .mp kPP .bool), (27, .d kLP), (28, .d kI), (29, .d kI)]) uLf uLf) uLf)) (uNn uLf (uNn (uNn uLf (uNn (.node none (some [(1, .box [.d kPl]), (2, .box [.row kPP 44, .row (.pair kI kPP) 56, .row kPP 60]), (6, .mp kPP .bool), (9, .box [.row kPP 44, .row (.pair kI kPP) 56, .d kLP]), (42, .d kLP), (43, .d kI), (44, .d kI)]) (uNn uLf (uNn uLf (uNn (uNn (uNn uLf (uNn uLf (uNn (.node none (some [(1, .box [.d kPl]), (2, .box [.row kPP 44, .row (.pair kI kPP) 56, .row kPP 60]), (6, .mp kPP .bool), (9, .box [.row kPP 44, .row (.pair kI kPP) 56, .d kLP]), (11, .box [.d kPP]), (12, .d kI), (42, .d kLP), (43, .d kI), (44, .d kI)]) (uNn uLf (uNn (.node (some [(1, .box [.d kPl]), (2, .box [.row kPP 44, .row (.pair kI kPP) 56, .row kPP 60]), (6, .mp kPP .bool), (9, .box [.row kPP 44, .row (.pair kI kPP) 56, .d kLP]), (11, .box [.d kPP]), (12, .d kI), (42, .d kLP), (43, .d kI), (44, .d kI)]) none (uNn (uNn (.node (some [(1, .box [.d kPl]), (2, .box [.row kPP 44, .row (.pair kI kPP) 56, .row kPP 60]), (6, .mp kPP .bool), (9, .box [.row kPP 44, .row (.pair kI kPP) 56, .d kLP]), (11, .box [.d kPP]), (12, .d kI), (42, .d kLP), (43, .d kI), (44, .d kI), (73, .d .bool)]) none uLf uLf) uLf) (uNn uLf (uNn uLf (uNn (.node (some [(1, .box [.d kPl]), (2, .box [.row kPP 44, .row (.pair kI kPP) 56, .row kPP 60]), (6, .mp kPP .bool), (9, .box [.row kPP 44, .row (.pair kI kPP) 56, .d kLP]), (11, .box [.d kPP]), (12, .d kI), (13, .box [.d (.pair kI kPP)]), (42, .d kLP), (43, .d kI), (44, .d kI), (108, .d .bool)]) none uLf uLf) (.node (some [(1, .box [.d kPl]), (2, .box [.row kPP 44, .row (.pair kI kPP) 56, .row kPP 60]), (6, .mp kPP .bool), (9, .box [.row kPP 44, .row (.pair kI kPP) 56, .d kLP]), (11, .box [.d kPP]), (12, .d kI), (42, .d kLP), (43, .d kI), (44, .d kI)]) none uLf uLf))))) uLf) uLf)) uLf) uLf))) uLf) uLf))) uLf) uLf)) uLf))))))
def zdS (k : Nat) (qZ : TPl → Option (LPt × Int)) (Qf : TPl → Option LPt) (QY : LPt → Int → Int → Int → Option ((Int × PPt) × Bool)) (Yk : LPt → LPt → Int → Int → Int → Option PPt) (X7 : LPt → (Int × PPt) → Option Bool) (a0 : TPl) : Option (TMs × Int) :=
 bnd (qZ (a0.1, a0.2.1, a0.2.2)) fun r0 =>
 bif !(decide (r0.2 = 0)) then
 some (([], [], []), r0.2)
 else
 zx (α := (TPl × (TMs × (LPt × ((List (PPt × Bool)) × (LPt × PPt)))))) (fun (x2, x3, x4, x5, x6, x7, x8) next1 =>
 bif decide (x8 < x7) then
 gd (inb x8 x6.length) <|
 gd (!(hsM (.pair (.int .i64) (.int .i64)) .bool x5 ((rdD (0, 0) x6 x8).1, (rdD (0, 0) x6 x8).2))) <|
 next1 ((x2.1, x2.2.1, x2.2.2), (x3.1, x3.2.1, x3.2.2), x4, adM (.pair (.int .i64) (.int .i64)) .bool x5 ((rdD (0, 0) x6 x8).1, (rdD (0, 0) x6 x8).2) true, x6, x7, w64 (x8 + 1))
 else
 gd (decide (0 < (x2.1.length : Int))) <|
 gd (few x2.1.length) <|
 bnd (Qf (x2.1, x2.2.1, x2.2.2)) fun r9 =>
 zx (α := (TPl × (TMs × ((List (PPt × Bool)) × (TMs × (LPt × PPt)))))) (fun (x11, x12, x13, x14, x15, x16, x17) next10 =>
 bif decide (x17 < x16) then
 gd (inb x17 x15.length) <|
 zx (α := (TPl × (TMs × ((List (PPt × Bool)) × (TMs × (PPt × (Int × (LPt × PPt)))))))) (fun (x19, x20, x21, x22, x23, x24, x25, x26, x27) next18 =>
 bif decide (x24 < (x19.1.length : Int)) then
 zy (α := (TPl × (TMs × ((List (PPt × Bool)) × (TMs × (PPt × (Int × (LPt × PPt)))))))) (fun (y28, y29, y30, y31, y32, y33, y34, y35, y36) =>
 next18 ((y28.1, y28.2.1, y28.2.2), (y29.1, y29.2.1, y29.2.2), y30, (y31.1, y31.2.1, y31.2.2), (y32.1, y32.2), w64 (y33 + 1), y34, y35, y36)) fun j37 =>
 zy (α := (TPl × (TMs × ((List (PPt × Bool)) × (TMs × (PPt × (Int × (LPt × (Int × (Int × Bool)))))))))) (fun (y38, y39, y40, y41, y42, y43, y44, y45, y46, y47) =>
 bif y47 then
 j37 ((y38.1, y38.2.1, y38.2.2), (y39.1, y39.2.1, y39.2.2), y40, (y41.1, y41.2.1, y41.2.2), (y42.1, y42.2), y43, y44, y45, y46)
 else
 bnd (QY y38.1 y42.1 y42.2 y43) fun r48 =>
 bnd (Yk y38.1 y38.2.1 y42.1 y42.2 y43) fun r49 =>
 zy (α := (TPl × (TMs × ((List (PPt × Bool)) × (TMs × (PPt × (Int × ((Int × PPt) × (LPt × (Int × (Int × Bool))))))))))) (fun (y50, y51, y52, y53, y54, y55, y56, y57, y58, y59, y60) =>
 zy (α := (TPl × (TMs × ((List (PPt × Bool)) × (TMs × (PPt × (Int × (LPt × PPt)))))))) (fun (y61, y62, y63, y64, y65, y66, y67, y68, y69) =>
 j37 ((y61.1, y61.2.1, y61.2.2), (y62.1, y62.2.1, y62.2.2), y63, (y64.1, y64.2.1, y64.2.2), (y65.1, y65.2), y66, y67, y68, y69)) fun j70 =>
 bif y60 then
 gd (few (y53.2.1.length + 1)) <|
 j70 ((y50.1, y50.2.1, y50.2.2), (y51.1, y51.2.1, y51.2.2), y52, (y53.1, y53.2.1 ++ [(y56.1, y56.2.1, y56.2.2)], y53.2.2), (y54.1, y54.2), y55, y57, y58, y59)
 else
 j70 ((y50.1, y50.2.1, y50.2.2), (y51.1, y51.2.1, y51.2.2), y52, (y53.1, y53.2.1, y53.2.2), (y54.1, y54.2), y55, y57, y58, y59)) fun j71 =>
 bif r48.2 then
 bif decide (r49.1 = 1) then
 bnd (X7 y38.1 (r48.1.1, r48.1.2.1, r48.1.2.2)) fun r72 =>
 j71 ((y38.1, y38.2.1, y38.2.2), (y39.1, y39.2.1, y39.2.2), y40, (y41.1, y41.2.1, y41.2.2), (y42.1, y42.2), y43, (r48.1.1, r48.1.2.1, r48.1.2.2), y44, y45, y46, r72)
 else
 j71 ((y38.1, y38.2.1, y38.2.2), (y39.1, y39.2.1, y39.2.2), y40, (y41.1, y41.2.1, y41.2.2), (y42.1, y42.2), y43, (r48.1.1, r48.1.2.1, r48.1.2.2), y44, y45, y46, false)
 else
 j71 ((y38.1, y38.2.1, y38.2.2), (y39.1, y39.2.1, y39.2.2), y40, (y41.1, y41.2.1, y41.2.2), (y42.1, y42.2), y43, (r48.1.1, r48.1.2.1, r48.1.2.2), y44, y45, y46, false)) fun j73 =>
 bif !(toT Bool (lkM (.pair (.int .i64) (.int .i64)) .bool x21 (x23.1, x24))) then
 j73 ((x19.1, x19.2.1, x19.2.2), (x20.1, x20.2.1, x20.2.2), x21, (x22.1, x22.2.1, x22.2.2), (x23.1, x23.2), x24, x25, x26, x27, true)
 else
 j73 ((x19.1, x19.2.1, x19.2.2), (x20.1, x20.2.1, x20.2.2), x21, (x22.1, x22.2.1, x22.2.2), (x23.1, x23.2), x24, x25, x26, x27, !(toT Bool (lkM (.pair (.int .i64) (.int .i64)) .bool x21 (x23.2, x24))))
 else
 next10 ((x19.1, x19.2.1, x19.2.2), (x20.1, x20.2.1, x20.2.2), x21, (x22.1, x22.2.1, x22.2.2), x25, x26, w64 (x27 + 1))) k ((x11.1, x11.2.1, x11.2.2), (x12.1, x12.2.1, x12.2.2), x13, (x14.1, x14.2.1, x14.2.2), ((rdD (0, 0) x15 x17).1, (rdD (0, 0) x15 x17).2), w64 ((rdD (0, 0) x15 x17).2 + 1), x15, x16, x17)
 else
 gd (few x14.2.1.length) <|
 some ((x14.1, Y4 KY x14.2.1, x14.2.2), 0)) k ((x2.1, x2.2.1, x2.2.2), (x3.1, x3.2.1, x3.2.2), x5, (x2.1, [], r9), x4, (x4.length : Int), 0)) k ((a0.1, a0.2.1, a0.2.2), ([], [], []), r0.1, [], r0.1, (r0.1.length : Int), 0)
theorem zm6 (k : Nat) (qZ : TPl → Option (LPt × Int)) (Qf : TPl → Option LPt) (QY : LPt → Int → Int → Int → Option ((Int × PPt) × Bool)) (Yk : LPt → LPt → Int → Int → Int → Option PPt) (X7 : LPt → (Int × PPt) → Option Bool) (a0 : TPl) : zM [⟨56, [], [], fun _ => none, some (.srt (.pair kI kPP) 57 KY)⟩, ⟨13, [.d kPl], [.sl kPP, kI], fun x => qZ x, none⟩, ⟨46, [.d kPl], [.sl kPP], fun x => Qf x, none⟩, ⟨40, [.d kLP, .d kI, .d kI, .d kI], [.pair kI kPP, .bool], fun x => QY (x.1) (x.2.1) (x.2.2.1) (x.2.2.2), none⟩, ⟨54, [.d kLP, .d kLP, .d kI, .d kI, .d kI], [kI, kI], fun x => Yk (x.1) (x.2.1) (x.2.2.1) (x.2.2.2.1) (x.2.2.2.2), none⟩, ⟨55, [.d kLP, .d (.pair kI kPP)], [.bool], fun x => X7 (x.1) (x.2), none⟩] tbm k Tryz.f15 zhj [.d kPl] [.pair kLP (.pair (.sl (.pair kI kPP)) kLP), kI] a0 = zdS k qZ Qf QY Yk X7 a0 := by kernel_rfl
def ZL (k : Nat) (a0 : TPl) : Option (TMs × Int) := zdS k (js k) (ZM k) (ZX k) (Zm k) (ZH k) a0
theorem zc8 (k : Nat) : zv Tryz.prog 15 [.d kPl] [.pair kLP (.pair (.sl (.pair kI kPP)) kLP), kI] (fun x => ZL k x) := fun x y h => zh zxc mix (zo.cons (ze.sort zxB) (zo.cons (ze.of rfl (Y7 k)) (zo.cons (ze.of rfl (zg5 k)) (zo.cons (ze.of rfl (zd0 k)) (zo.cons (ze.of rfl (zfY k)) (zo.cons (ze.of rfl (zhF k)) (zo.nil _))))))) Tryz.func15 (N := k) (an := zhj) (by kernel_rfl) x y ((zm6 k (js k) (ZM k) (ZX k) (Zm k) (ZH k) x).trans h)
end
end Go.Proofs.YtpkkcjmblocjdaaGreat.AM
