/- The functions, by their texts: written by a program. -/
import Derived.Test.YtpkkcjmblocjdaaGreatGa2
import Derived.Test.YtpkkcjmblocjdaaGreatCln
set_option linter.unusedVariables false
set_option linter.unusedSimpArgs false
set_option linter.unusedSectionVars false
set_option maxRecDepth 100000
namespace Go.Proofs.YtpkkcjmblocjdaaGreat.AM
open Go.RowKit Go.Proofs
noncomputable section
def zih : Ann := uNn uLf (uNn uLf (uNn (uNn (.node (some [(2, .box [.d (.pair .bool (.pair (.int .u64) (.pair (.int .u64) (.pair (.int .u64) (.int .u64)))))]), (3, .box [.d (.pair .bool (.pair (.int .u64) (.pair (.int .u64) (.pair (.int .u64) (.int .u64)))))]), (5, .d kI), (6, .d kI), (17, .d .bool)]) none uLf uLf) uLf) uLf))
def zge (k : Nat) (XC : (Bool × (Int × (Int × PPt))) → Option Int) (zZ : Int → Int → Option Int) (zbb : (Int × (Int × PPt)) → (Int × (Int × PPt)) → Option Int) (a0 : (Bool × (Int × (Int × PPt)))) (a1 : (Bool × (Int × (Int × PPt)))) : Option Int :=
 bnd (XC (a0.1, a0.2.1, a0.2.2.1, a0.2.2.2.1, a0.2.2.2.2)) fun r0 =>
 bnd (XC (a1.1, a1.2.1, a1.2.2.1, a1.2.2.2.1, a1.2.2.2.2)) fun r1 =>
 zy (α := ((Bool × (Int × (Int × PPt))) × ((Bool × (Int × (Int × PPt))) × (Int × (Int × Bool))))) (fun (y2, y3, y4, y5, y6) =>
 bif y6 then
 bnd (zZ y4 y5) fun r7 =>
 some r7
 else
 bnd (zbb (y2.2.1, y2.2.2.1, y2.2.2.2.1, y2.2.2.2.2) (y3.2.1, y3.2.2.1, y3.2.2.2.1, y3.2.2.2.2)) fun r8 =>
 some (w64 (y4 * r8))) fun j9 =>
 bif !(decide (r0 = r1)) then
 j9 ((a0.1, a0.2.1, a0.2.2.1, a0.2.2.2.1, a0.2.2.2.2), (a1.1, a1.2.1, a1.2.2.1, a1.2.2.2.1, a1.2.2.2.2), r0, r1, true)
 else
 j9 ((a0.1, a0.2.1, a0.2.2.1, a0.2.2.2.1, a0.2.2.2.2), (a1.1, a1.2.1, a1.2.2.1, a1.2.2.2.1, a1.2.2.2.2), r0, r1, decide (r0 = 0))
theorem znX (k : Nat) (XC : (Bool × (Int × (Int × PPt))) → Option Int) (zZ : Int → Int → Option Int) (zbb : (Int × (Int × PPt)) → (Int × (Int × PPt)) → Option Int) (a0 : (Bool × (Int × (Int × PPt)))) (a1 : (Bool × (Int × (Int × PPt)))) : zM [⟨177, [.d (.pair .bool (.pair (.int .u64) (.pair (.int .u64) (.pair (.int .u64) (.int .u64)))))], [kI], fun x => XC x, none⟩, ⟨90, [.d kI, .d kI], [kI], fun x => zZ (x.1) (x.2), none⟩, ⟨178, [.d (.pair (.int .u64) (.pair (.int .u64) (.pair (.int .u64) (.int .u64)))), .d (.pair (.int .u64) (.pair (.int .u64) (.pair (.int .u64) (.int .u64))))], [kI], fun x => zbb (x.1) (x.2), none⟩] tb k Tryz.f166 zih [.d (.pair .bool (.pair (.int .u64) (.pair (.int .u64) (.pair (.int .u64) (.int .u64))))), .d (.pair .bool (.pair (.int .u64) (.pair (.int .u64) (.pair (.int .u64) (.int .u64)))))] [kI] (a0, a1) = zge k XC zZ zbb a0 a1 := by kernel_rfl
def zaC (k : Nat) (a0 : (Bool × (Int × (Int × PPt)))) (a1 : (Bool × (Int × (Int × PPt)))) : Option Int := zge k (XG k) (qA k) (XE k) a0 a1
theorem zkj (k : Nat) : zv Tryz.prog 166 [.d (.pair .bool (.pair (.int .u64) (.pair (.int .u64) (.pair (.int .u64) (.int .u64))))), .d (.pair .bool (.pair (.int .u64) (.pair (.int .u64) (.pair (.int .u64) (.int .u64)))))] [kI] (fun x => zaC k (x.1) (x.2)) := fun x y h => zh zN mix (zo.cons (ze.of rfl (ziP k)) (zo.cons (ze.of rfl (Jd k)) (zo.cons (ze.of rfl (ziI k)) (zo.nil _)))) Tryz.func166 (N := k) (an := zih) (by kernel_rfl) x y ((znX k (XG k) (qA k) (XE k) (x.1) (x.2)).trans h)
def zfA : Ann := uLf
def zcv (k : Nat) (Jt : Int → Int → Option (Bool × (Int × (Int × PPt)))) (zcN : (Bool × (Int × (Int × PPt))) → (Bool × (Int × (Int × PPt))) → Option Int) (a0 : Int) (a1 : Int) (a2 : Int) (a3 : Int) : Option Int :=
 bnd (Jt a0 a1) fun r0 =>
 bnd (Jt a2 a3) fun r1 =>
 bnd (zcN (r0.1, r0.2.1, r0.2.2.1, r0.2.2.2.1, r0.2.2.2.2) (r1.1, r1.2.1, r1.2.2.1, r1.2.2.2.1, r1.2.2.2.2)) fun r2 =>
 some r2
theorem zkL (k : Nat) (Jt : Int → Int → Option (Bool × (Int × (Int × PPt)))) (zcN : (Bool × (Int × (Int × PPt))) → (Bool × (Int × (Int × PPt))) → Option Int) (a0 : Int) (a1 : Int) (a2 : Int) (a3 : Int) : zM [⟨165, [.d kI, .d kI], [.pair .bool (.pair (.int .u64) (.pair (.int .u64) (.pair (.int .u64) (.int .u64))))], fun x => Jt (x.1) (x.2), none⟩, ⟨166, [.d (.pair .bool (.pair (.int .u64) (.pair (.int .u64) (.pair (.int .u64) (.int .u64))))), .d (.pair .bool (.pair (.int .u64) (.pair (.int .u64) (.pair (.int .u64) (.int .u64)))))], [kI], fun x => zcN (x.1) (x.2), none⟩] tb k Tryz.f145 zfA [.d kI, .d kI, .d kI, .d kI] [kI] (a0, a1, a2, a3) = zcv k Jt zcN a0 a1 a2 a3 := by kernel_rfl
def Yi (k : Nat) (a0 : Int) (a1 : Int) (a2 : Int) (a3 : Int) : Option Int := zcv k (JE k) (zaC k) a0 a1 a2 a3
theorem zhs (k : Nat) : zv Tryz.prog 145 [.d kI, .d kI, .d kI, .d kI] [kI] (fun x => Yi k (x.1) (x.2.1) (x.2.2.1) (x.2.2.2)) := fun x y h => zh zN mix (zo.cons (ze.of rfl (zfO k)) (zo.cons (ze.of rfl (zkj k)) (zo.nil _))) Tryz.func145 (N := k) (an := zfA) (by kernel_rfl) x y ((zkL k (JE k) (zaC k) (x.1) (x.2.1) (x.2.2.1) (x.2.2.2)).trans h)
def zel : Ann := uLf
def zbk (k : Nat) (zak : (List Int) → Option Bool) (X8 : Int → Int → Int → Int → Option Int) (a0 : PPt) (a1 : PPt) (a2 : PPt) : Option Int :=
 bnd (zak [w64 (a1.1 - a0.1), w64 (a2.2 - a0.2), w64 (a1.2 - a0.2), w64 (a2.1 - a0.1)]) fun r0 =>
 bif r0 then
 bif decide ((w64 ((w64 ((w64 (a1.1 - a0.1)) * (w64 (a2.2 - a0.2)))) - (w64 ((w64 (a1.2 - a0.2)) * (w64 (a2.1 - a0.1)))))) > 0) then
 some 1
 else
 bif decide ((w64 ((w64 ((w64 (a1.1 - a0.1)) * (w64 (a2.2 - a0.2)))) - (w64 ((w64 (a1.2 - a0.2)) * (w64 (a2.1 - a0.1)))))) < 0) then
 some (-1)
 else
 some 0
 else
 bnd (X8 (w64 (a1.1 - a0.1)) (w64 (a2.2 - a0.2)) (w64 (a1.2 - a0.2)) (w64 (a2.1 - a0.1))) fun r1 =>
 some r1
theorem zkh (k : Nat) (zak : (List Int) → Option Bool) (X8 : Int → Int → Int → Int → Option Int) (a0 : PPt) (a1 : PPt) (a2 : PPt) : zM [⟨144, [.d (.sl kI)], [.bool], fun x => zak x, none⟩, ⟨145, [.d kI, .d kI, .d kI, .d kI], [kI], fun x => X8 (x.1) (x.2.1) (x.2.2.1) (x.2.2.2), none⟩] tb k Tryz.f109 zel [.d kPP, .d kPP, .d kPP] [kI] (a0, a1, a2) = zbk k zak X8 a0 a1 a2 := by kernel_rfl
def Ki (k : Nat) (a0 : PPt) (a1 : PPt) (a2 : PPt) : Option Int := zbk k (Yc k) (Yi k) a0 a1 a2
theorem zg9 (k : Nat) : zv Tryz.prog 109 [.d kPP, .d kPP, .d kPP] [kI] (fun x => Ki k (x.1) (x.2.1) (x.2.2)) := fun x y h => zh zN mix (zo.cons (ze.of rfl (zhk k)) (zo.cons (ze.of rfl (zhs k)) (zo.nil _))) Tryz.func109 (N := k) (an := zel) (by kernel_rfl) x y ((zkh k (Yc k) (Yi k) (x.1) (x.2.1) (x.2.2)).trans h)
def zem : Ann := uLf
def zbt (k : Nat) (zH : LPt → Option Bool) (Xc : PPt → PPt → PPt → Option Int) (a0 : PPt) (a1 : PPt) (a2 : PPt) : Option Int :=
 bnd (zH [(a0.1, a0.2), (a1.1, a1.2), (a2.1, a2.2)]) fun r0 =>
 bif !r0 then
 some 0
 else
 bnd (Xc (a0.1, a0.2) (a1.1, a1.2) (a2.1, a2.2)) fun r1 =>
 some r1
theorem zj8 (k : Nat) (zH : LPt → Option Bool) (Xc : PPt → PPt → PPt → Option Int) (a0 : PPt) (a1 : PPt) (a2 : PPt) : zM [⟨108, [.d kLP], [.bool], fun x => zH x, none⟩, ⟨109, [.d kPP, .d kPP, .d kPP], [kI], fun x => Xc (x.1) (x.2.1) (x.2.2), none⟩] tb k Tryz.f81 zem [.d kPP, .d kPP, .d kPP] [kI] (a0, a1, a2) = zbt k zH Xc a0 a1 a2 := by kernel_rfl
def qH (k : Nat) (a0 : PPt) (a1 : PPt) (a2 : PPt) : Option Int := zbt k (qp k) (Ki k) a0 a1 a2
theorem Qw (k : Nat) : zv Tryz.prog 81 [.d kPP, .d kPP, .d kPP] [kI] (fun x => qH k (x.1) (x.2.1) (x.2.2)) := fun x y h => zh zN mix (zo.cons (ze.of rfl (jW k)) (zo.cons (ze.of rfl (zg9 k)) (zo.nil _))) Tryz.func81 (N := k) (an := zem) (by kernel_rfl) x y ((zj8 k (qp k) (Ki k) (x.1) (x.2.1) (x.2.2)).trans h)
def zdd : Ann := uNn uLf (uNn (.node (some [(6, .d .bool)]) none uLf uLf) uLf)
def QM (k : Nat) (a0 : Int) (a1 : Int) (a2 : Int) : Option Bool :=
 zy (α := Bool) (fun y0 =>
 some y0) fun j1 =>
 bif decide ((mnI a0 a1) ≤ a2) then
 j1 (decide (a2 ≤ (mxI a0 a1)))
 else
 j1 false
theorem ziD (k : Nat) (a0 : Int) (a1 : Int) (a2 : Int) : zM [] tb k Tryz.f154 zdd [.d kI, .d kI, .d kI] [.bool] (a0, a1, a2) = QM k a0 a1 a2 := by kernel_rfl
theorem zf3 (k : Nat) : zv Tryz.prog 154 [.d kI, .d kI, .d kI] [.bool] (fun x => QM k (x.1) (x.2.1) (x.2.2)) := fun x y h => zh zN mix (zo.nil _) Tryz.func154 (N := k) (an := zdd) (by kernel_rfl) x y ((ziD k (x.1) (x.2.1) (x.2.2)).trans h)
def zjw : Ann := uNn uLf (uNn (.node (some [(6, .d .bool)]) none uLf uLf) uLf)
def zho (k : Nat) (zH : LPt → Option Bool) (zU : PPt → PPt → PPt → Option Int) (JF : Int → Int → Int → Option Bool) (a0 : PPt) (a1 : PPt) (a2 : PPt) : Option Bool :=
 zy (α := Bool) (fun y0 =>
 some y0) fun j1 =>
 bif !((decide (a0.1 = a1.1)) && (decide (a0.2 = a1.2))) then
 bnd (zH [(a0.1, a0.2), (a1.1, a1.2), (a2.1, a2.2)]) fun r2 =>
 bif r2 then
 bnd (zU (a0.1, a0.2) (a1.1, a1.2) (a2.1, a2.2)) fun r3 =>
 bif decide (r3 = 0) then
 bnd (JF a0.1 a1.1 a2.1) fun r4 =>
 bif r4 then
 bnd (JF a0.2 a1.2 a2.2) fun r5 =>
 j1 r5
 else
 j1 false
 else
 j1 false
 else
 j1 false
 else
 j1 false
theorem zpp (k : Nat) (zH : LPt → Option Bool) (zU : PPt → PPt → PPt → Option Int) (JF : Int → Int → Int → Option Bool) (a0 : PPt) (a1 : PPt) (a2 : PPt) : zM [⟨108, [.d kLP], [.bool], fun x => zH x, none⟩, ⟨81, [.d kPP, .d kPP, .d kPP], [kI], fun x => zU (x.1) (x.2.1) (x.2.2), none⟩, ⟨154, [.d kI, .d kI, .d kI], [.bool], fun x => JF (x.1) (x.2.1) (x.2.2), none⟩] tb k Tryz.f119 zjw [.d kPP, .d kPP, .d kPP] [.bool] (a0, a1, a2) = zho k zH zU JF a0 a1 a2 := by kernel_rfl
def KZ (k : Nat) (a0 : PPt) (a1 : PPt) (a2 : PPt) : Option Bool := zho k (qp k) (qH k) (QM k) a0 a1 a2
theorem zfq (k : Nat) : zv Tryz.prog 119 [.d kPP, .d kPP, .d kPP] [.bool] (fun x => KZ k (x.1) (x.2.1) (x.2.2)) := fun x y h => zh zN mix (zo.cons (ze.of rfl (jW k)) (zo.cons (ze.of rfl (Qw k)) (zo.cons (ze.of rfl (zf3 k)) (zo.nil _)))) Tryz.func119 (N := k) (an := zjw) (by kernel_rfl) x y ((zpp k (qp k) (qH k) (QM k) (x.1) (x.2.1) (x.2.2)).trans h)
def zeu : Ann := uNn uLf (uNn (.node (some [(6, .d .bool)]) none uLf uLf) uLf)
def zbE (k : Nat) (JZ : PPt → PPt → PPt → Option Bool) (a0 : PPt) (a1 : PPt) (a2 : PPt) : Option Bool :=
 zy (α := Bool) (fun y0 =>
 some y0) fun j1 =>
 bnd (JZ (a0.1, a0.2) (a1.1, a1.2) (a2.1, a2.2)) fun r2 =>
 bif r2 then
 bif !((decide (a2.1 = a0.1)) && (decide (a2.2 = a0.2))) then
 j1 (!((decide (a2.1 = a1.1)) && (decide (a2.2 = a1.2))))
 else
 j1 false
 else
 j1 false
theorem zjX (k : Nat) (JZ : PPt → PPt → PPt → Option Bool) (a0 : PPt) (a1 : PPt) (a2 : PPt) : zM [⟨119, [.d kPP, .d kPP, .d kPP], [.bool], fun x => JZ (x.1) (x.2.1) (x.2.2), none⟩] tb k Tryz.f84 zeu [.d kPP, .d kPP, .d kPP] [.bool] (a0, a1, a2) = zbE k JZ a0 a1 a2 := by kernel_rfl
def jq (k : Nat) (a0 : PPt) (a1 : PPt) (a2 : PPt) : Option Bool := zbE k (KZ k) a0 a1 a2
theorem K7 (k : Nat) : zv Tryz.prog 84 [.d kPP, .d kPP, .d kPP] [.bool] (fun x => jq k (x.1) (x.2.1) (x.2.2)) := fun x y h => zh zN mix (zo.cons (ze.of rfl (zfq k)) (zo.nil _)) Tryz.func84 (N := k) (an := zeu) (by kernel_rfl) x y ((zjX k (KZ k) (x.1) (x.2.1) (x.2.2)).trans h)
def zgH : Ann := uNn uLf (uNn (uNn (.node (some [(4, .box [.d kPP]), (5, .box [.d kPP]), (6, .box [.d kPP]), (7, .box [.d kPP]), (30, .d .bool)]) none uLf uLf) uLf) (uNn uLf (uNn uLf (uNn (uNn uLf (uNn (uNn (.node (some [(10, .d kI), (11, .d kI), (81, .d .bool)]) none uLf uLf) (uNn uLf (uNn (.node (some [(10, .d kI), (11, .d kI), (88, .d .bool)]) none uLf uLf) uLf))) uLf)) uLf))))
def zdX (k : Nat) (zH : LPt → Option Bool) (Yt : (List Bool) → Option Int) (qr : PPt → PPt → PPt → Option Bool) (zU : PPt → PPt → PPt → Option Int) (a0 : PPt) (a1 : PPt) (a2 : PPt) (a3 : PPt) : Option PPt :=
 zy (α := (PPt × (PPt × (PPt × (PPt × Bool))))) (fun (y0, y1, y2, y3, y4) =>
 bif y4 then
 some (0, 2)
 else
 bnd (Yt [(decide (y0.1 = y2.1)) && (decide (y0.2 = y2.2)), (decide (y0.1 = y3.1)) && (decide (y0.2 = y3.2)), (decide (y1.1 = y2.1)) && (decide (y1.2 = y2.2)), (decide (y1.1 = y3.1)) && (decide (y1.2 = y3.2))]) fun r5 =>
 bnd (qr (y0.1, y0.2) (y1.1, y1.2) (y2.1, y2.2)) fun r6 =>
 bnd (qr (y0.1, y0.2) (y1.1, y1.2) (y3.1, y3.2)) fun r7 =>
 bnd (qr (y2.1, y2.2) (y3.1, y3.2) (y0.1, y0.2)) fun r8 =>
 bnd (qr (y2.1, y2.2) (y3.1, y3.2) (y1.1, y1.2)) fun r9 =>
 bnd (Yt [r6, r7, r8, r9]) fun r10 =>
 bnd (zU (y0.1, y0.2) (y1.1, y1.2) (y2.1, y2.2)) fun r11 =>
 bnd (zU (y0.1, y0.2) (y1.1, y1.2) (y3.1, y3.2)) fun r12 =>
 bnd (zU (y2.1, y2.2) (y3.1, y3.2) (y0.1, y0.2)) fun r13 =>
 bnd (zU (y2.1, y2.2) (y3.1, y3.2) (y1.1, y1.2)) fun r14 =>
 zy (α := (Int × (Int × Bool))) (fun (y15, y16, y17) =>
 bif y17 then
 some (3, 0)
 else
 zy (α := (Int × (Int × Bool))) (fun (y18, y19, y20) =>
 bif y20 then
 some (4, 0)
 else
 bif decide (y18 = 1) then
 some (1, 0)
 else
 bif decide (y19 = 1) then
 some (2, 0)
 else
 some (0, 0)) fun j21 =>
 bif decide (y15 = 2) then
 j21 (y15, y16, true)
 else
 bif decide (y16 > 1) then
 j21 (y15, y16, true)
 else
 bif decide (y15 = 1) then
 j21 (y15, y16, decide (y16 = 1))
 else
 j21 (y15, y16, false)) fun j22 =>
 bif decide ((w64 (r11 * r12)) < 0) then
 j22 (r5, r10, decide ((w64 (r13 * r14)) < 0))
 else
 j22 (r5, r10, false)) fun j23 =>
 bif (decide (a0.1 = a1.1)) && (decide (a0.2 = a1.2)) then
 j23 ((a0.1, a0.2), (a1.1, a1.2), (a2.1, a2.2), (a3.1, a3.2), true)
 else
 bif (decide (a2.1 = a3.1)) && (decide (a2.2 = a3.2)) then
 j23 ((a0.1, a0.2), (a1.1, a1.2), (a2.1, a2.2), (a3.1, a3.2), true)
 else
 bnd (zH [(a0.1, a0.2), (a1.1, a1.2), (a2.1, a2.2), (a3.1, a3.2)]) fun r24 =>
 j23 ((a0.1, a0.2), (a1.1, a1.2), (a2.1, a2.2), (a3.1, a3.2), !r24)
theorem zlZ (k : Nat) (zH : LPt → Option Bool) (Yt : (List Bool) → Option Int) (qr : PPt → PPt → PPt → Option Bool) (zU : PPt → PPt → PPt → Option Int) (a0 : PPt) (a1 : PPt) (a2 : PPt) (a3 : PPt) : zM [⟨108, [.d kLP], [.bool], fun x => zH x, none⟩, ⟨120, [.d (.sl .bool)], [kI], fun x => Yt x, none⟩, ⟨84, [.d kPP, .d kPP, .d kPP], [.bool], fun x => qr (x.1) (x.2.1) (x.2.2), none⟩, ⟨81, [.d kPP, .d kPP, .d kPP], [kI], fun x => zU (x.1) (x.2.1) (x.2.2), none⟩] tb k Tryz.f85 zgH [.d kPP, .d kPP, .d kPP, .d kPP] [kI, kI] (a0, a1, a2, a3) = zdX k zH Yt qr zU a0 a1 a2 a3 := by kernel_rfl
def Qs (k : Nat) (a0 : PPt) (a1 : PPt) (a2 : PPt) (a3 : PPt) : Option PPt := zdX k (qp k) (JU k) (jq k) (qH k) a0 a1 a2 a3
theorem zdf (k : Nat) : zv Tryz.prog 85 [.d kPP, .d kPP, .d kPP, .d kPP] [kI, kI] (fun x => Qs k (x.1) (x.2.1) (x.2.2.1) (x.2.2.2)) := fun x y h => zh zN mix (zo.cons (ze.of rfl (jW k)) (zo.cons (ze.of rfl (zh6 k)) (zo.cons (ze.of rfl (K7 k)) (zo.cons (ze.of rfl (Qw k)) (zo.nil _))))) Tryz.func85 (N := k) (an := zgH) (by kernel_rfl) x y ((zlZ k (qp k) (JU k) (jq k) (qH k) (x.1) (x.2.1) (x.2.2.1) (x.2.2.2)).trans h)
def zfG : Ann := uNn uLf (uNn (uNn uLf (uNn (.node none (some [(0, .d (.sl (.pair kPP kPP))), (12, .d (.sl (.pair kPP kPP))), (13, .d kI), (14, .d kI)]) (uNn uLf (uNn uLf (uNn (uNn (uNn uLf (uNn (.node (some [(0, .d (.sl (.pair kPP kPP))), (12, .d (.sl (.pair kPP kPP))), (13, .d kI), (14, .d kI), (29, .d .bool)]) none uLf uLf) uLf)) uLf) uLf))) uLf) uLf)) (uNn (uNn uLf (uNn (.node none (some [(0, .d (.sl (.pair kPP kPP))), (31, .d (.sl (.pair kPP kPP))), (32, .d kI), (33, .d kI)]) (uNn uLf (uNn uLf (uNn (uNn (uNn uLf (uNn uLf (uNn (.node none (some [(0, .d (.sl (.pair kPP kPP))), (7, .d kI), (8, .box [.d (.pair kPP kPP)]), (9, .d kI), (31, .d (.sl (.pair kPP kPP))), (32, .d kI), (33, .d kI)]) uLf uLf) uLf))) uLf) uLf))) uLf) uLf)) uLf))
def zcr (k : Nat) (zH : LPt → Option Bool) (Qb : PPt → PPt → PPt → PPt → Option PPt) (a0 : (List (PPt × PPt))) : Option (Int × Int × Bool) :=
 zx (α := ((List (PPt × PPt)) × ((List (PPt × PPt)) × PPt))) (fun (x1, x2, x3, x4) next0 =>
 bif decide (x4 < x3) then
 gd (inb x4 x2.length) <|
 zy (α := ((List (PPt × PPt)) × ((List (PPt × PPt)) × (Int × (Int × Bool))))) (fun (y5, y6, y7, y8, y9) =>
 bif y9 then
 some (0, 0, false)
 else
 next0 (y5, y6, y7, w64 (y8 + 1))) fun j10 =>
 bnd (zH [((rdD ((0, 0), 0, 0) x2 x4).1.1, (rdD ((0, 0), 0, 0) x2 x4).1.2), ((rdD ((0, 0), 0, 0) x2 x4).2.1, (rdD ((0, 0), 0, 0) x2 x4).2.2)]) fun r11 =>
 bif !r11 then
 j10 (x1, x2, x3, x4, true)
 else
 j10 (x1, x2, x3, x4, (decide ((rdD ((0, 0), 0, 0) x2 x4).1.1 = (rdD ((0, 0), 0, 0) x2 x4).1.1)) && ((decide ((rdD ((0, 0), 0, 0) x2 x4).1.2 = (rdD ((0, 0), 0, 0) x2 x4).1.2)) && ((decide ((rdD ((0, 0), 0, 0) x2 x4).2.1 = (rdD ((0, 0), 0, 0) x2 x4).1.1)) && (decide ((rdD ((0, 0), 0, 0) x2 x4).2.2 = (rdD ((0, 0), 0, 0) x2 x4).1.2)))))
 else
 zx (α := ((List (PPt × PPt)) × ((List (PPt × PPt)) × PPt))) (fun (x13, x14, x15, x16) next12 =>
 bif decide (x16 < x15) then
 gd (inb x16 x14.length) <|
 zx (α := ((List (PPt × PPt)) × (Int × ((PPt × PPt) × (Int × ((List (PPt × PPt)) × PPt)))))) (fun (x18, x19, x20, x21, x22, x23, x24) next17 =>
 bif decide (x21 < (x18.length : Int)) then
 gd (inb x21 x18.length) <|
 gd (inb x21 x18.length) <|
 bnd (Qb (x20.1.1, x20.1.2) (x20.2.1, x20.2.2) ((rdD ((0, 0), 0, 0) x18 x21).1.1, (rdD ((0, 0), 0, 0) x18 x21).1.2) ((rdD ((0, 0), 0, 0) x18 x21).2.1, (rdD ((0, 0), 0, 0) x18 x21).2.2)) fun r25 =>
 bif decide (r25.1 > 1) then
 some (x19, x21, true)
 else
 next17 (x18, x19, ((x20.1.1, x20.1.2), x20.2.1, x20.2.2), w64 (x21 + 1), x22, x23, x24)
 else
 next12 (x18, x22, x23, w64 (x24 + 1))) k (x13, x16, (((rdD ((0, 0), 0, 0) x14 x16).1.1, (rdD ((0, 0), 0, 0) x14 x16).1.2), (rdD ((0, 0), 0, 0) x14 x16).2.1, (rdD ((0, 0), 0, 0) x14 x16).2.2), w64 (x16 + 1), x14, x15, x16)
 else
 some (0, 0, false)) k (x1, x1, (x1.length : Int), 0)) k (a0, a0, (a0.length : Int), 0)
theorem zkS (k : Nat) (zH : LPt → Option Bool) (Qb : PPt → PPt → PPt → PPt → Option PPt) (a0 : (List (PPt × PPt))) : zM [⟨108, [.d kLP], [.bool], fun x => zH x, none⟩, ⟨85, [.d kPP, .d kPP, .d kPP, .d kPP], [kI, kI], fun x => Qb (x.1) (x.2.1) (x.2.2.1) (x.2.2.2), none⟩] tb k Tryz.f150 zfG [.d (.sl (.pair kPP kPP))] [kI, kI, .bool] a0 = zcr k zH Qb a0 := by kernel_rfl
def J4 (k : Nat) (a0 : (List (PPt × PPt))) : Option (Int × Int × Bool) := zcr k (qp k) (Qs k) a0
theorem zhD (k : Nat) : zv Tryz.prog 150 [.d (.sl (.pair kPP kPP))] [kI, kI, .bool] (fun x => J4 k x) := fun x y h => zh zN mix (zo.cons (ze.of rfl (jW k)) (zo.cons (ze.of rfl (zdf k)) (zo.nil _))) Tryz.func150 (N := k) (an := zfG) (by kernel_rfl) x y ((zkS k (qp k) (Qs k) x).trans h)
def zdT : Ann := uNn uLf (uNn uLf (uNn (uNn uLf (uNn (.node none (some [(1, .box [.d kPl]), (2, .box [.d (.pair kI kPP)]), (3, .row (.pair kPP kPP) 177), (10, .d kLP), (11, .d kI), (12, .d kI)]) uLf uLf) uLf)) uLf))
def zby (k : Nat) (qy : TPl → Option LPt) (ZF : TPl → PPt → Option (PPt × PPt)) (zaf : (List (PPt × PPt)) → Option (Int × Int × Bool)) (a0 : TPl) : Option (Int × PPt) :=
 bnd (qy (a0.1, a0.2.1, a0.2.2)) fun r0 =>
 zx (α := (TPl × ((Int × PPt) × ((List (PPt × PPt)) × (LPt × PPt))))) (fun (x2, x3, x4, x5, x6, x7) next1 =>
 bif decide (x7 < x6) then
 gd (inb x7 x5.length) <|
 bnd (ZF (x2.1, x2.2.1, x2.2.2) ((rdD (0, 0) x5 x7).1, (rdD (0, 0) x5 x7).2)) fun r8 =>
 gd (few (x4.length + 1)) <|
 next1 ((x2.1, x2.2.1, x2.2.2), (x3.1, x3.2.1, x3.2.2), x4 ++ [((r8.1.1, r8.1.2), r8.2.1, r8.2.2)], x5, x6, w64 (x7 + 1))
 else
 bnd (zaf x4) fun r9 =>
 bif r9.2.2 then
 some (3, r9.1, r9.2.1)
 else
 some (0, 0, 0)) k ((a0.1, a0.2.1, a0.2.2), (0, 0, 0), [], r0, (r0.length : Int), 0)
theorem zkw (k : Nat) (qy : TPl → Option LPt) (ZF : TPl → PPt → Option (PPt × PPt)) (zaf : (List (PPt × PPt)) → Option (Int × Int × Bool)) (a0 : TPl) : zM [⟨148, [.d kPl], [.sl kPP], fun x => qy x, none⟩, ⟨149, [.d kPl, .d kPP], [.pair kPP kPP], fun x => ZF (x.1) (x.2), none⟩, ⟨150, [.d (.sl (.pair kPP kPP))], [kI, kI, .bool], fun x => zaf x, none⟩] tb k Tryz.f113 zdT [.d kPl] [.pair kI kPP] a0 = zby k qy ZF zaf a0 := by kernel_rfl
def KA (k : Nat) (a0 : TPl) : Option (Int × PPt) := zby k (qX k) (Zi k) (J4 k) a0
theorem zgy (k : Nat) : zv Tryz.prog 113 [.d kPl] [.pair kI kPP] (fun x => KA k x) := fun x y h => zh zN mix (zo.cons (ze.of rfl (KC k)) (zo.cons (ze.of rfl (zch k)) (zo.cons (ze.of rfl (zhD k)) (zo.nil _)))) Tryz.func113 (N := k) (an := zdT) (by kernel_rfl) x y ((zkw k (qX k) (Zi k) (J4 k) x).trans h)
def zc9 : Ann := uNn uLf (uNn (uNn uLf (uNn (.node none (some [(1, .box [.d kPl]), (2, .box [.d (.pair kI kPP)]), (9, .d kLP), (10, .d kI), (11, .d kI)]) (uNn uLf (uNn uLf (uNn (uNn (uNn uLf (uNn uLf (uNn (.node none (some [(1, .box [.d kPl]), (2, .box [.d (.pair kI kPP)]), (3, .d kI), (4, .box [.d kPP]), (9, .d kLP), (10, .d kI), (11, .d kI), (17, .d kLP), (18, .d kI), (19, .d kI)]) uLf uLf) uLf))) uLf) uLf))) uLf) uLf)) uLf)
def zaV (k : Nat) (qy : TPl → Option LPt) (ZF : TPl → PPt → Option (PPt × PPt)) (qr : PPt → PPt → PPt → Option Bool) (a0 : TPl) : Option (Int × PPt) :=
 zx (α := (TPl × ((Int × PPt) × (LPt × PPt)))) (fun (x1, x2, x3, x4, x5) next0 =>
 bif decide (x5 < x4) then
 gd (inb x5 x3.length) <|
 bnd (qy (x1.1, x1.2.1, x1.2.2)) fun r6 =>
 zx (α := (TPl × ((Int × PPt) × (Int × (PPt × (LPt × (Int × (Int × (LPt × PPt))))))))) (fun (x8, x9, x10, x11, x12, x13, x14, x15, x16, x17) next7 =>
 bif decide (x17 < x16) then
 gd (inb x17 x15.length) <|
 bnd (ZF (x8.1, x8.2.1, x8.2.2) ((rdD (0, 0) x15 x17).1, (rdD (0, 0) x15 x17).2)) fun r18 =>
 bnd (qr (r18.1.1, r18.1.2) (r18.2.1, r18.2.2) (x11.1, x11.2)) fun r19 =>
 bif r19 then
 some (4, x10, x17)
 else
 next7 ((x8.1, x8.2.1, x8.2.2), (x9.1, x9.2.1, x9.2.2), x10, (x11.1, x11.2), x12, x13, x14, x15, x16, w64 (x17 + 1))
 else
 next0 ((x8.1, x8.2.1, x8.2.2), (x9.1, x9.2.1, x9.2.2), x12, x13, w64 (x14 + 1))) k ((x1.1, x1.2.1, x1.2.2), (x2.1, x2.2.1, x2.2.2), x5, ((rdD (0, 0) x3 x5).1, (rdD (0, 0) x3 x5).2), x3, x4, x5, r6, (r6.length : Int), 0)
 else
 some (0, 0, 0)) k ((a0.1, a0.2.1, a0.2.2), (0, 0, 0), a0.1, (a0.1.length : Int), 0)
theorem ziE (k : Nat) (qy : TPl → Option LPt) (ZF : TPl → PPt → Option (PPt × PPt)) (qr : PPt → PPt → PPt → Option Bool) (a0 : TPl) : zM [⟨148, [.d kPl], [.sl kPP], fun x => qy x, none⟩, ⟨149, [.d kPl, .d kPP], [.pair kPP kPP], fun x => ZF (x.1) (x.2), none⟩, ⟨84, [.d kPP, .d kPP, .d kPP], [.bool], fun x => qr (x.1) (x.2.1) (x.2.2), none⟩] tb k Tryz.f114 zc9 [.d kPl] [.pair kI kPP] a0 = zaV k qy ZF qr a0 := by kernel_rfl
def Jz (k : Nat) (a0 : TPl) : Option (Int × PPt) := zaV k (qX k) (Zi k) (jq k) a0
theorem zfV (k : Nat) : zv Tryz.prog 114 [.d kPl] [.pair kI kPP] (fun x => Jz k x) := fun x y h => zh zN mix (zo.cons (ze.of rfl (KC k)) (zo.cons (ze.of rfl (zch k)) (zo.cons (ze.of rfl (K7 k)) (zo.nil _)))) Tryz.func114 (N := k) (an := zc9) (by kernel_rfl) x y ((ziE k (qX k) (Zi k) (jq k) x).trans h)
def zci : Ann := uNn uLf (uNn (uNn (.node (some [(0, .d kI), (1, .d kLP), (14, .d .bool)]) none uLf uLf) uLf) (uNn uLf (uNn (uNn uLf (uNn (.node none (some [(0, .d kI), (6, .row kI 3), (17, .d kLP), (18, .d kI), (19, .d kI)]) (uNn uLf (uNn uLf (uNn (uNn (uNn uLf (uNn (uNn (.node (some [(0, .d kI), (6, .row kI 3), (8, .box [.d kPP]), (17, .d kLP), (18, .d kI), (19, .d kI), (49, .d .bool)]) none uLf uLf) uLf) uLf)) uLf) uLf))) uLf) uLf)) uLf)))
def jT (k : Nat) (a0 : Int) (a1 : LPt) : Option ((List Int) × Int) :=
 zy (α := (Int × (LPt × Bool))) (fun (y0, y1, y2) =>
 bif y2 then
 some ([], 2)
 else
 gd (decide (0 ≤ y0)) <|
 gd (zgq y0) <|
 zx (α := (Int × ((List Int) × (LPt × PPt)))) (fun (x4, x5, x6, x7, x8) next3 =>
 bif decide (x8 < x7) then
 gd (inb x8 x6.length) <|
 zy (α := (Int × ((List Int) × (PPt × (LPt × (Int × (Int × Bool))))))) (fun (y9, y10, y11, y12, y13, y14, y15) =>
 bif y15 then
 some ([], 2)
 else
 gd (inb y11.1 y10.length) <|
 gd (inb y11.1 y10.length) <|
 gd (inb y11.2 y10.length) <|
 gd (inb y11.2 y10.length) <|
 next3 (y9, stL (stL y10 y11.1 (w64 ((rdD 0 y10 y11.1) + 1))) y11.2 (w64 ((rdD 0 (stL y10 y11.1 (w64 ((rdD 0 y10 y11.1) + 1))) y11.2) + 1)), y12, y13, w64 (y14 + 1))) fun j16 =>
 bif decide ((rdD (0, 0) x6 x8).1 < 0) then
 j16 (x4, x5, ((rdD (0, 0) x6 x8).1, (rdD (0, 0) x6 x8).2), x6, x7, x8, true)
 else
 bif decide ((rdD (0, 0) x6 x8).1 ≥ x4) then
 j16 (x4, x5, ((rdD (0, 0) x6 x8).1, (rdD (0, 0) x6 x8).2), x6, x7, x8, true)
 else
 bif decide ((rdD (0, 0) x6 x8).2 < 0) then
 j16 (x4, x5, ((rdD (0, 0) x6 x8).1, (rdD (0, 0) x6 x8).2), x6, x7, x8, true)
 else
 bif decide ((rdD (0, 0) x6 x8).2 ≥ x4) then
 j16 (x4, x5, ((rdD (0, 0) x6 x8).1, (rdD (0, 0) x6 x8).2), x6, x7, x8, true)
 else
 j16 (x4, x5, ((rdD (0, 0) x6 x8).1, (rdD (0, 0) x6 x8).2), x6, x7, x8, decide ((rdD (0, 0) x6 x8).1 = (rdD (0, 0) x6 x8).2))
 else
 some (x5, 0)) k (y0, rpL y0 0, y1, (y1.length : Int), 0)) fun j17 =>
 bif decide (a0 < 0) then
 j17 (a0, a1, true)
 else
 j17 (a0, a1, decide (a0 > 1048576))
theorem zhZ (k : Nat) (a0 : Int) (a1 : LPt) : zM [] tb k Tryz.f152 zci [.d kI, .d kLP] [.sl kI, kI] (a0, a1) = jT k a0 a1 := by kernel_rfl
theorem XY (k : Nat) : zv Tryz.prog 152 [.d kI, .d kLP] [.sl kI, kI] (fun x => jT k (x.1) (x.2)) := fun x y h => zh zN mix (zo.nil _) Tryz.func152 (N := k) (an := zci) (by kernel_rfl) x y ((zhZ k (x.1) (x.2)).trans h)
def zd2 : Ann := uNn uLf (uNn uLf (uNn (uNn uLf (uNn (.node none (some [(3, .mp kPP .bool), (7, .d kLP), (8, .d kI), (9, .d kI)]) uLf uLf) uLf)) uLf))
def Q9 (k : Nat) (a0 : LPt) : Option Int :=
 zx (α := ((List (PPt × Bool)) × (LPt × PPt))) (fun (x1, x2, x3, x4) next0 =>
 bif decide (x4 < x3) then
 gd (inb x4 x2.length) <|
 bif toT Bool (lkM (.pair (.int .i64) (.int .i64)) .bool x1 (mnI (rdD (0, 0) x2 x4).1 (rdD (0, 0) x2 x4).2, mxI (rdD (0, 0) x2 x4).1 (rdD (0, 0) x2 x4).2)) then
 some x4
 else
 gd (!(hsM (.pair (.int .i64) (.int .i64)) .bool x1 (mnI (rdD (0, 0) x2 x4).1 (rdD (0, 0) x2 x4).2, mxI (rdD (0, 0) x2 x4).1 (rdD (0, 0) x2 x4).2))) <|
 next0 (adM (.pair (.int .i64) (.int .i64)) .bool x1 (mnI (rdD (0, 0) x2 x4).1 (rdD (0, 0) x2 x4).2, mxI (rdD (0, 0) x2 x4).1 (rdD (0, 0) x2 x4).2) true, x2, x3, w64 (x4 + 1))
 else
 some (-1)) k ([], a0, (a0.length : Int), 0)
theorem zjV (k : Nat) (a0 : LPt) : zM [] tb k Tryz.f168 zd2 [.d kLP] [kI] a0 = Q9 k a0 := by kernel_rfl
theorem zhc (k : Nat) : zv Tryz.prog 168 [.d kLP] [kI] (fun x => Q9 k x) := fun x y h => zh zN mix (zo.nil _) Tryz.func168 (N := k) (an := zd2) (by kernel_rfl) x y ((zjV k x).trans h)
def zcb : Ann := uNn uLf (uNn (.node (some [(2, .d .bool)]) none uLf uLf) uLf)
def Z2 (k : Nat) (a0 : Int) : Option Bool :=
 zy (α := Bool) (fun y0 =>
 some y0) fun j1 =>
 bif !(decide (a0 = 0)) then
 j1 (!(decide (a0 = 2)))
 else
 j1 false
theorem zh1 (k : Nat) (a0 : Int) : zM [] tb k Tryz.f170 zcb [.d kI] [.bool] a0 = Z2 k a0 := by kernel_rfl
theorem zfd (k : Nat) : zv Tryz.prog 170 [.d kI] [.bool] (fun x => Z2 k x) := fun x y h => zh zN mix (zo.nil _) Tryz.func170 (N := k) (an := zcb) (by kernel_rfl) x y ((zh1 k x).trans h)
def Js : Ann := uNn uLf (uNn (uNn uLf (uNn (.node none (some [(0, .d (.sl kI)), (1, .fn 170 [] []), (7, .d kI), (8, .d kI)]) uLf uLf) uLf)) uLf)
def ZW (k : Nat) (KF : Int → Option Bool) (a0 : (List Int)) (a1 : (Unit × Unit)) : Option Int :=
 zx (α := ((List Int) × ((Unit × Unit) × PPt))) (fun (x1, x2, x3, x4) next0 =>
 bif decide (x4 < x3) then
 gd (inb x4 x1.length) <|
 bnd (KF (rdD 0 x1 x4)) fun r5 =>
 bif r5 then
 some x4
 else
 next0 (x1, ((), ()), x3, w64 (x4 + 1))
 else
 some (-1)) k (a0, ((), ()), (a0.length : Int), 0)
theorem zac (k : Nat) (KF : Int → Option Bool) (a0 : (List Int)) (a1 : (Unit × Unit)) : zM [⟨170, [.d kI], [.bool], fun x => KF x, none⟩] tb k Tryz.f169 Js [.d (.sl kI), .fn 170 [] []] [kI] (a0, a1) = ZW k KF a0 a1 := by kernel_rfl
def jd (k : Nat) (a0 : (List Int)) (a1 : (Unit × Unit)) : Option Int := ZW k (Z2 k) a0 a1
theorem YV (k : Nat) : zv Tryz.prog 169 [.d (.sl kI), .fn 170 [] []] [kI] (fun x => jd k (x.1) (x.2)) := fun x y h => zh zN mix (zo.cons (ze.of rfl (zfd k)) (zo.nil _)) Tryz.func169 (N := k) (an := Js) (by kernel_rfl) x y ((zac k (Z2 k) (x.1) (x.2)).trans h)
def XT : Ann := uLf
def Zb (k : Nat) (a0 : PPt) (a1 : Int) : Option Int :=
 bif decide (a0.1 = a1) then
 some a0.2
 else
 some a0.1
theorem ze9 (k : Nat) (a0 : PPt) (a1 : Int) : zM [] tb k Tryz.f172 XT [.d kPP, .d kI] [kI] (a0, a1) = Zb k a0 a1 := by kernel_rfl
theorem zcZ (k : Nat) : zv Tryz.prog 172 [.d kPP, .d kI] [kI] (fun x => Zb k (x.1) (x.2)) := fun x y h => zh zN mix (zo.nil _) Tryz.func172 (N := k) (an := XT) (by kernel_rfl) x y ((ze9 k (x.1) (x.2)).trans h)
def zd3 : Ann := uNn uLf (uNn uLf (uNn uLf (uNn uLf (uNn uLf (uNn uLf (uNn (uNn uLf (uNn (.node none (some [(0, .d kI), (1, .d kLP), (7, .d (.sl kI)), (11, .row kPP 205), (45, .d kI), (46, .d kI)]) uLf uLf) uLf)) (uNn (uNn uLf (uNn (.node none (some [(0, .d kI), (7, .d (.sl kI)), (11, .row kPP 205), (54, .d kLP), (55, .d kI), (56, .d kI)]) (uNn uLf (uNn uLf (uNn (uNn (uNn uLf (uNn (.node (some [(0, .d kI), (7, .d (.sl kI)), (11, .row kPP 205), (14, .box [.d kPP]), (54, .d kLP), (55, .d kI), (56, .d kI)]) none uLf uLf) (.node (some [(0, .d kI), (7, .d (.sl kI)), (11, .row kPP 205), (54, .d kLP), (55, .d kI), (56, .d kI)]) none uLf uLf))) uLf) uLf))) uLf) uLf)) (uNn uLf (uNn uLf (uNn (uNn uLf (uNn (.node none (some [(7, .d (.sl kI)), (11, .row kPP 205), (15, .row .bool 4), (16, .row (.sl kI) 49), (78, .d kI), (79, .d kI)]) (uNn uLf (uNn uLf (uNn (.node (some [(7, .d (.sl kI)), (11, .row kPP 205), (15, .row .bool 4), (16, .row (.sl kI) 49), (78, .d kI), (79, .d kI)]) none (uNn uLf (uNn (uNn (.node (some [(7, .d (.sl kI)), (11, .row kPP 205), (15, .row .bool 4), (16, .row (.sl kI) 49), (17, .d kI), (78, .d kI), (79, .d kI), (92, .d .bool)]) none uLf uLf) uLf) (uNn uLf (uNn uLf (uNn (uNn (.node none (some [(7, .d (.sl kI)), (11, .row kPP 205), (15, .row .bool 4), (16, .row (.sl kI) 49), (17, .d kI), (18, .row kI 3), (19, .d kI), (20, .d kI), (78, .d kI), (79, .d kI)]) uLf uLf) uLf) (uNn (uNn uLf (uNn (.node none (some [(7, .d (.sl kI)), (11, .row kPP 205), (15, .row .bool 4), (16, .row (.sl kI) 49), (18, .d (.sl kI)), (78, .d kI), (79, .d kI), (121, .d (.sl kI)), (122, .d kI), (123, .d kI)]) uLf uLf) uLf)) uLf)))))) uLf) uLf))) uLf) uLf)) uLf))))))))))
def zbo (k : Nat) (jt : Int → LPt → Option ((List Int) × Int)) (Xk : LPt → Option Int) (jN : (List Int) → (Unit × Unit) → Option Int) (QT : PPt → Int → Option Int) (a0 : Int) (a1 : LPt) : Option ((List (List Int)) × Int × Int) :=
 bnd (jt a0 a1) fun r0 =>
 bif !(decide (r0.2 = 0)) then
 some ([], 0, r0.2)
 else
 bnd (Xk a1) fun r1 =>
 bif decide (r1 ≥ 0) then
 some ([], r1, 80)
 else
 bnd (jN r0.1 ((), ())) fun r2 =>
 bif decide (r2 ≥ 0) then
 some ([], r2, 81)
 else
 gd (decide (0 ≤ a0)) <|
 gd (zgq a0) <|
 zx (α := (Int × (LPt × ((List Int) × (LPt × PPt))))) (fun (x4, x5, x6, x7, x8, x9) next3 =>
 bif decide (x9 < x8) then
 gd (inb x9 x7.length) <|
 next3 (x4, x5, x6, stL x7 x9 ((-1), (-1)), x8, w64 (x9 + 1))
 else
 zx (α := (Int × ((List Int) × (LPt × (LPt × PPt))))) (fun (x11, x12, x13, x14, x15, x16) next10 =>
 bif decide (x16 < x15) then
 gd (inb x16 x14.length) <|
 zy (α := (Int × ((List Int) × (LPt × (PPt × (LPt × PPt)))))) (fun (y17, y18, y19, y20, y21, y22, y23) =>
 zy (α := (Int × ((List Int) × (LPt × (LPt × PPt))))) (fun (y24, y25, y26, y27, y28, y29) =>
 next10 (y24, y25, y26, y27, y28, w64 (y29 + 1))) fun j30 =>
 gd (inb y20.2 y19.length) <|
 bif decide ((rdD (0, 0) y19 y20.2).1 < 0) then
 j30 (y17, y18, stL y19 y20.2 (y20.1, (rdD (0, 0) y19 y20.2).2), y21, y22, y23)
 else
 j30 (y17, y18, stL y19 y20.2 ((rdD (0, 0) y19 y20.2).1, y20.1), y21, y22, y23)) fun j31 =>
 gd (inb (rdD (0, 0) x14 x16).1 x13.length) <|
 bif decide ((rdD (0, 0) x13 (rdD (0, 0) x14 x16).1).1 < 0) then
 j31 (x11, x12, stL x13 (rdD (0, 0) x14 x16).1 ((rdD (0, 0) x14 x16).2, (rdD (0, 0) x13 (rdD (0, 0) x14 x16).1).2), ((rdD (0, 0) x14 x16).1, (rdD (0, 0) x14 x16).2), x14, x15, x16)
 else
 j31 (x11, x12, stL x13 (rdD (0, 0) x14 x16).1 ((rdD (0, 0) x13 (rdD (0, 0) x14 x16).1).1, (rdD (0, 0) x14 x16).2), ((rdD (0, 0) x14 x16).1, (rdD (0, 0) x14 x16).2), x14, x15, x16)
 else
 gd (decide (0 ≤ x11)) <|
 gd (zgq x11) <|
 zx (α := ((List Int) × (LPt × ((List Bool) × ((List (List Int)) × PPt))))) (fun (x33, x34, x35, x36, x37, x38) next32 =>
 bif decide (x38 < x37) then
 zy (α := ((List Int) × (LPt × ((List Bool) × ((List (List Int)) × PPt))))) (fun (y39, y40, y41, y42, y43, y44) =>
 next32 (y39, y40, y41, y42, y43, w64 (y44 + 1))) fun j45 =>
 zy (α := ((List Int) × (LPt × ((List Bool) × ((List (List Int)) × (Int × (Int × (Int × Bool)))))))) (fun (y46, y47, y48, y49, y50, y51, y52, y53) =>
 bif y53 then
 j45 (y46, y47, y48, y49, y51, y52)
 else
 gd (inb y50 y47.length) <|
 gd (inb y50 y47.length) <|
 zx (α := ((List Int) × (LPt × ((List Bool) × ((List (List Int)) × (Int × ((List Int) × (Int × (Int × PPt))))))))) (fun (x55, x56, x57, x58, x59, x60, x61, x62, x63, x64) next54 =>
 bif !(decide (x62 = x59)) then
 gd (few (x60.length + 1)) <|
 gd (inb x62 x56.length) <|
 bnd (QT ((rdD (0, 0) x56 x62).1, (rdD (0, 0) x56 x62).2) x61) fun r65 =>
 next54 (x55, x56, x57, x58, x59, x60 ++ [x62], x62, r65, x63, x64)
 else
 zx (α := ((List Int) × (LPt × ((List Bool) × ((List (List Int)) × ((List Int) × (Int × (Int × ((List Int) × PPt))))))))) (fun (x67, x68, x69, x70, x71, x72, x73, x74, x75, x76) next66 =>
 bif decide (x76 < x75) then
 gd (inb x76 x74.length) <|
 gd (inb (rdD 0 x74 x76) x69.length) <|
 next66 (x67, x68, stL x69 (rdD 0 x74 x76) true, x70, x71, x72, x73, x74, x75, w64 (x76 + 1))
 else
 gd (few (x70.length + 1)) <|
 j45 (x67, x68, x69, x70 ++ [x71], x72, x73)) k (x55, x56, x57, x58, x60, x63, x64, x60, (x60.length : Int), 0)) k (y46, y47, y48, y49, y50, [y50], y50, mnI (rdD (0, 0) y47 y50).1 (rdD (0, 0) y47 y50).2, y51, y52)) fun j77 =>
 gd (inb x38 x33.length) <|
 bif decide ((rdD 0 x33 x38) = 0) then
 j77 (x33, x34, x35, x36, x38, x37, x38, true)
 else
 gd (inb x38 x35.length) <|
 j77 (x33, x34, x35, x36, x38, x37, x38, rdD false x35 x38)
 else
 some (x36, 0, 0)) k (x12, x13, rpL x11 false, [], (x13.length : Int), 0)) k (x4, x6, x7, x5, (x5.length : Int), 0)) k (a0, a1, r0.1, rpL a0 (0, 0), ((rpL a0 (0, 0) : List PPt).length : Int), 0)
theorem zke (k : Nat) (jt : Int → LPt → Option ((List Int) × Int)) (Xk : LPt → Option Int) (jN : (List Int) → (Unit × Unit) → Option Int) (QT : PPt → Int → Option Int) (a0 : Int) (a1 : LPt) : zM [⟨171, [], [], fun _ => none, some (.code tb Tryz.f171)⟩, ⟨152, [.d kI, .d kLP], [.sl kI, kI], fun x => jt (x.1) (x.2), none⟩, ⟨168, [.d kLP], [kI], fun x => Xk x, none⟩, ⟨169, [.d (.sl kI), .fn 170 [] []], [kI], fun x => jN (x.1) (x.2), none⟩, ⟨172, [.d kPP, .d kI], [kI], fun x => QT (x.1) (x.2), none⟩] tb k Tryz.f151 zd3 [.d kI, .d kLP] [.sl (.sl kI), kI, kI] (a0, a1) = zbo k jt Xk jN QT a0 a1 := by kernel_rfl
def Ks (k : Nat) (a0 : Int) (a1 : LPt) : Option ((List (List Int)) × Int × Int) := zbo k (jT k) (Q9 k) (jd k) (Zb k) a0 a1
theorem zgR (k : Nat) : zv Tryz.prog 151 [.d kI, .d kLP] [.sl (.sl kI), kI, kI] (fun x => Ks k (x.1) (x.2)) := fun x y h => zh zN mix (zo.cons (ze.go zN mix Tryz.func171 (by kernel_rfl)) (zo.cons (ze.of rfl (XY k)) (zo.cons (ze.of rfl (zhc k)) (zo.cons (ze.of rfl (YV k)) (zo.cons (ze.of rfl (zcZ k)) (zo.nil _)))))) Tryz.func151 (N := k) (an := zd3) (by kernel_rfl) x y ((zke k (jT k) (Q9 k) (jd k) (Zb k) (x.1) (x.2)).trans h)
def zfw : Ann := uLf
def zcw (k : Nat) (Xb : Int → LPt → Option ((List (List Int)) × Int × Int)) (a0 : TPl) : Option (Int × PPt) :=
 bnd (Xb (a0.1.length : Int) a0.2.1) fun r0 =>
 bif !(decide (r0.2.2 = 0)) then
 some (5, r0.2.1, 0)
 else
 bif decide ((a0.2.1.length : Int) = 0) then
 some (6, 0, 0)
 else
 some (0, 0, 0)
theorem zkE (k : Nat) (Xb : Int → LPt → Option ((List (List Int)) × Int × Int)) (a0 : TPl) : zM [⟨151, [.d kI, .d kLP], [.sl (.sl kI), kI, kI], fun x => Xb (x.1) (x.2), none⟩] tb k Tryz.f115 zfw [.d kPl] [.pair kI kPP] a0 = zcw k Xb a0 := by kernel_rfl
def Yh (k : Nat) (a0 : TPl) : Option (Int × PPt) := zcw k (Ks k) a0
theorem zhr (k : Nat) : zv Tryz.prog 115 [.d kPl] [.pair kI kPP] (fun x => Yh k x) := fun x y h => zh zN mix (zo.cons (ze.of rfl (zgR k)) (zo.nil _)) Tryz.func115 (N := k) (an := zfw) (by kernel_rfl) x y ((zkE k (Ks k) x).trans h)
def zbf : Ann := uLf
def QL (k : Nat) (a0 : Int) (a1 : PPt) : Option PPt :=
 some (w64 (a0 * a1.1), w64 (a0 * a1.2))
theorem zgs (k : Nat) (a0 : Int) (a1 : PPt) : zM [] tb k Tryz.f133 zbf [.d kI, .d kPP] [.pair kI kI] (a0, a1) = QL k a0 a1 := by kernel_rfl
theorem zev (k : Nat) : zv Tryz.prog 133 [.d kI, .d kPP] [.pair kI kI] (fun x => QL k (x.1) (x.2)) := fun x y h => zh zN mix (zo.nil _) Tryz.func133 (N := k) (an := zbf) (by kernel_rfl) x y ((zgs k (x.1) (x.2)).trans h)
def zeK : Ann := uNn uLf (uNn uLf (uNn (uNn uLf (uNn (.node none (some [(0, .d kLP), (2, .fn 133 [(.d kI)] []), (8, .row (.pair kPP kPP) 177), (13, .d kLP), (14, .d kI), (15, .d kI)]) (uNn uLf (uNn uLf (uNn (uNn (uNn uLf (uNn (uNn (.node (some [(0, .d kLP), (2, .fn 133 [(.d kI)] []), (8, .row (.pair kPP kPP) 177), (10, .box [.d kPP]), (13, .d kLP), (14, .d kI), (15, .d kI), (68, .d .bool)]) none uLf uLf) uLf) uLf)) uLf) uLf))) uLf) uLf)) uLf))
def zbK (k : Nat) (zH : LPt → Option Bool) (QH : Int → PPt → Option PPt) (a0 : LPt) (a1 : LPt) (a2 : (Int × Unit)) : Option ((List (PPt × PPt)) × Bool) :=
 zx (α := (LPt × ((Int × Unit) × ((List (PPt × PPt)) × (LPt × PPt))))) (fun (x1, x2, x3, x4, x5, x6) next0 =>
 bif decide (x6 < x5) then
 gd (inb x6 x4.length) <|
 zy (α := (LPt × ((Int × Unit) × ((List (PPt × PPt)) × (PPt × (LPt × (Int × (Int × Bool)))))))) (fun (y7, y8, y9, y10, y11, y12, y13, y14) =>
 bif y14 then
 some ([], false)
 else
 gd (inb y10.1 y7.length) <|
 bnd (QH y8.1 ((rdD (0, 0) y7 y10.1).1, (rdD (0, 0) y7 y10.1).2)) fun r15 =>
 gd (inb y10.2 y7.length) <|
 bnd (QH y8.1 ((rdD (0, 0) y7 y10.2).1, (rdD (0, 0) y7 y10.2).2)) fun r16 =>
 bnd (zH [(r15.1, r15.2), (r16.1, r16.2)]) fun r17 =>
 bif !r17 then
 some ([], false)
 else
 gd (few (y9.length + 1)) <|
 next0 (y7, (y8.1, ()), y9 ++ [((r15.1, r15.2), r16.1, r16.2)], y11, y12, w64 (y13 + 1))) fun j18 =>
 bif decide ((rdD (0, 0) x4 x6).1 < 0) then
 j18 (x1, (x2.1, ()), x3, ((rdD (0, 0) x4 x6).1, (rdD (0, 0) x4 x6).2), x4, x5, x6, true)
 else
 bif decide ((rdD (0, 0) x4 x6).1 ≥ (x1.length : Int)) then
 j18 (x1, (x2.1, ()), x3, ((rdD (0, 0) x4 x6).1, (rdD (0, 0) x4 x6).2), x4, x5, x6, true)
 else
 bif decide ((rdD (0, 0) x4 x6).2 < 0) then
 j18 (x1, (x2.1, ()), x3, ((rdD (0, 0) x4 x6).1, (rdD (0, 0) x4 x6).2), x4, x5, x6, true)
 else
 bif decide ((rdD (0, 0) x4 x6).2 ≥ (x1.length : Int)) then
 j18 (x1, (x2.1, ()), x3, ((rdD (0, 0) x4 x6).1, (rdD (0, 0) x4 x6).2), x4, x5, x6, true)
 else
 gd (inb (rdD (0, 0) x4 x6).1 x1.length) <|
 gd (inb (rdD (0, 0) x4 x6).2 x1.length) <|
 bif (decide ((rdD (0, 0) x1 (rdD (0, 0) x4 x6).1).1 = (rdD (0, 0) x1 (rdD (0, 0) x4 x6).2).1)) && (decide ((rdD (0, 0) x1 (rdD (0, 0) x4 x6).1).2 = (rdD (0, 0) x1 (rdD (0, 0) x4 x6).2).2)) then
 j18 (x1, (x2.1, ()), x3, ((rdD (0, 0) x4 x6).1, (rdD (0, 0) x4 x6).2), x4, x5, x6, true)
 else
 gd (inb (rdD (0, 0) x4 x6).1 x1.length) <|
 gd (inb (rdD (0, 0) x4 x6).2 x1.length) <|
 bnd (zH [((rdD (0, 0) x1 (rdD (0, 0) x4 x6).1).1, (rdD (0, 0) x1 (rdD (0, 0) x4 x6).1).2), ((rdD (0, 0) x1 (rdD (0, 0) x4 x6).2).1, (rdD (0, 0) x1 (rdD (0, 0) x4 x6).2).2)]) fun r19 =>
 j18 (x1, (x2.1, ()), x3, ((rdD (0, 0) x4 x6).1, (rdD (0, 0) x4 x6).2), x4, x5, x6, !r19)
 else
 some (x3, true)) k (a0, (a2.1, ()), [], a1, (a1.length : Int), 0)
theorem zj7 (k : Nat) (zH : LPt → Option Bool) (QH : Int → PPt → Option PPt) (a0 : LPt) (a1 : LPt) (a2 : (Int × Unit)) : zM [⟨108, [.d kLP], [.bool], fun x => zH x, none⟩, ⟨133, [.d kI, .d kPP], [.pair kI kI], fun x => QH (x.1) (x.2), none⟩] tb k Tryz.f132 zeK [.d kLP, .d kLP, .fn 133 [(.d kI)] []] [.sl (.pair kPP kPP), .bool] (a0, a1, a2) = zbK k zH QH a0 a1 a2 := by kernel_rfl
def Kp (k : Nat) (a0 : LPt) (a1 : LPt) (a2 : (Int × Unit)) : Option ((List (PPt × PPt)) × Bool) := zbK k (qp k) (QL k) a0 a1 a2
theorem zgQ (k : Nat) : zv Tryz.prog 132 [.d kLP, .d kLP, .fn 133 [(.d kI)] []] [.sl (.pair kPP kPP), .bool] (fun x => Kp k (x.1) (x.2.1) (x.2.2)) := fun x y h => zh zN mix (zo.cons (ze.of rfl (jW k)) (zo.cons (ze.of rfl (zev k)) (zo.nil _))) Tryz.func132 (N := k) (an := zeK) (by kernel_rfl) x y ((zj7 k (qp k) (QL k) (x.1) (x.2.1) (x.2.2)).trans h)
def zdb : Ann := uNn uLf (uNn (uNn uLf (.node (some [(3, .box [.d kPP]), (4, .box [.d kPP]), (5, .box [.d kPP])]) none uLf uLf)) (uNn (.node (some [(6, .d .bool)]) none uLf uLf) uLf))
def zaP (k : Nat) (zU : PPt → PPt → PPt → Option Int) (a0 : PPt) (a1 : PPt) (a2 : PPt) : Option Bool :=
 zy (α := (PPt × (PPt × PPt))) (fun (y0, y1, y2, y3) =>
 zy (α := Bool) (fun y4 =>
 some y4) fun j5 =>
 bif decide (y0.2 ≤ y3) then
 bif decide (y3 < y1.2) then
 bnd (zU (y0.1, y0.2) (y1.1, y1.2) (y2, y3)) fun r6 =>
 j5 (decide (r6 > 0))
 else
 j5 false
 else
 j5 false) fun j7 =>
 bif decide (a0.2 > a1.2) then
 j7 ((a1.1, a1.2), (a0.1, a0.2), a2.1, a2.2)
 else
 j7 ((a0.1, a0.2), (a1.1, a1.2), a2.1, a2.2)
theorem ziM (k : Nat) (zU : PPt → PPt → PPt → Option Int) (a0 : PPt) (a1 : PPt) (a2 : PPt) : zM [⟨81, [.d kPP, .d kPP, .d kPP], [kI], fun x => zU (x.1) (x.2.1) (x.2.2), none⟩] tb k Tryz.f160 zdb [.d kPP, .d kPP, .d kPP] [.bool] (a0, a1, a2) = zaP k zU a0 a1 a2 := by kernel_rfl
def JQ (k : Nat) (a0 : PPt) (a1 : PPt) (a2 : PPt) : Option Bool := zaP k (qH k) a0 a1 a2
theorem zf9 (k : Nat) : zv Tryz.prog 160 [.d kPP, .d kPP, .d kPP] [.bool] (fun x => JQ k (x.1) (x.2.1) (x.2.2)) := fun x y h => zh zN mix (zo.cons (ze.of rfl (Qw k)) (zo.nil _)) Tryz.func160 (N := k) (an := zdb) (by kernel_rfl) x y ((ziM k (qH k) (x.1) (x.2.1) (x.2.2)).trans h)
def zde : Ann := uNn uLf (uNn uLf (uNn (uNn uLf (uNn (.node none (some [(3, .box [.d kPP]), (5, .d kI), (8, .d (.sl (.pair kPP kPP))), (9, .d kI), (10, .d kI)]) (uNn uLf (uNn uLf (uNn (uNn (uNn uLf (uNn (uNn uLf (uNn uLf (uNn uLf (.node (some [(3, .box [.d kPP]), (5, .d kI), (8, .d (.sl (.pair kPP kPP))), (9, .d kI), (10, .d kI)]) none uLf uLf)))) uLf)) uLf) uLf))) uLf) uLf)) uLf))
def zaE (k : Nat) (JZ : PPt → PPt → PPt → Option Bool) (Yd : PPt → PPt → PPt → Option Bool) (a0 : (List (PPt × PPt))) (a1 : PPt) : Option Int :=
 zx (α := (PPt × (Int × ((List (PPt × PPt)) × PPt)))) (fun (x1, x2, x3, x4, x5) next0 =>
 bif decide (x5 < x4) then
 gd (inb x5 x3.length) <|
 bnd (JZ ((rdD ((0, 0), 0, 0) x3 x5).1.1, (rdD ((0, 0), 0, 0) x3 x5).1.2) ((rdD ((0, 0), 0, 0) x3 x5).2.1, (rdD ((0, 0), 0, 0) x3 x5).2.2) (x1.1, x1.2)) fun r6 =>
 bif r6 then
 some 0
 else
 bnd (Yd ((rdD ((0, 0), 0, 0) x3 x5).1.1, (rdD ((0, 0), 0, 0) x3 x5).1.2) ((rdD ((0, 0), 0, 0) x3 x5).2.1, (rdD ((0, 0), 0, 0) x3 x5).2.2) (x1.1, x1.2)) fun r7 =>
 zy (α := (PPt × (Int × ((List (PPt × PPt)) × PPt)))) (fun (y8, y9, y10, y11, y12) =>
 next0 ((y8.1, y8.2), y9, y10, y11, w64 (y12 + 1))) fun j13 =>
 bif r7 then
 j13 ((x1.1, x1.2), w64 (0 - x2), x3, x4, x5)
 else
 j13 ((x1.1, x1.2), x2, x3, x4, x5)
 else
 some x2) k ((a1.1, a1.2), (-1), a0, (a0.length : Int), 0)
theorem ziN (k : Nat) (JZ : PPt → PPt → PPt → Option Bool) (Yd : PPt → PPt → PPt → Option Bool) (a0 : (List (PPt × PPt))) (a1 : PPt) : zM [⟨119, [.d kPP, .d kPP, .d kPP], [.bool], fun x => JZ (x.1) (x.2.1) (x.2.2), none⟩, ⟨160, [.d kPP, .d kPP, .d kPP], [.bool], fun x => Yd (x.1) (x.2.1) (x.2.2), none⟩] tb k Tryz.f134 zde [.d (.sl (.pair kPP kPP)), .d kPP] [kI] (a0, a1) = zaE k JZ Yd a0 a1 := by kernel_rfl
def ZR (k : Nat) (a0 : (List (PPt × PPt))) (a1 : PPt) : Option Int := zaE k (KZ k) (JQ k) a0 a1
theorem zaw (k : Nat) : zv Tryz.prog 134 [.d (.sl (.pair kPP kPP)), .d kPP] [kI] (fun x => ZR k (x.1) (x.2)) := fun x y h => zh zN mix (zo.cons (ze.of rfl (zfq k)) (zo.cons (ze.of rfl (zf9 k)) (zo.nil _))) Tryz.func134 (N := k) (an := zde) (by kernel_rfl) x y ((ziN k (KZ k) (JQ k) (x.1) (x.2)).trans h)
end
end Go.Proofs.YtpkkcjmblocjdaaGreat.AM
