/- The functions, by their texts: written by a program. -/
import Derived.Test.YtpkkcjmblocjdaaGreatGa7
import Derived.Test.YtpkkcjmblocjdaaGreatCln
set_option linter.unusedVariables false
set_option linter.unusedSimpArgs false
set_option linter.unusedSectionVars false
set_option maxRecDepth 100000
namespace Go.Proofs.YtpkkcjmblocjdaaGreat.AM
open Go.RowKit Go.Proofs
noncomputable section
def zaj:Ann:=uNn uLf (uNn uLf (uNn (uNn uLf (uNn (.node none (some [(1,.box [.d (.pair kLP (.pair (.sl (.pair kI kPP)) kLP))]),(2,.box [.d .bool,.row kI 3]),(3,.box [.d (.pair .bool (.sl kI))]),(4,.d kI)]) uLf uLf) uLf)) uLf))
def KD (k : Nat) (qk : PPt → PPt → PPt → Option (Bool × (List Int))) (zh : (Bool × (List Int)) → (Bool × (List Int)) → Option (Bool × (List Int))) (a0 : TMs) : Option (Bool × (List Int)) :=
 zA (α := (TMs × ((Bool × (List Int)) × ((Bool × (List Int)) × Int)))) (fun (x1, x2, x3, x4) next0 =>
 bif decide (x4 < (x1.2.1.length : Int)) then
 gd (inb x4 x1.2.1.length) <|
 gd (inb (rdD (0, 0, 0) x1.2.1 x4).1 x1.1.length) <|
 gd (inb x4 x1.2.1.length) <|
 gd (inb (rdD (0, 0, 0) x1.2.1 x4).2.1 x1.1.length) <|
 gd (inb x4 x1.2.1.length) <|
 gd (inb (rdD (0, 0, 0) x1.2.1 x4).2.2 x1.1.length) <|
 bnd (qk ((rdD (0, 0) x1.1 (rdD (0, 0, 0) x1.2.1 x4).1).1, (rdD (0, 0) x1.1 (rdD (0, 0, 0) x1.2.1 x4).1).2) ((rdD (0, 0) x1.1 (rdD (0, 0, 0) x1.2.1 x4).2.1).1, (rdD (0, 0) x1.1 (rdD (0, 0, 0) x1.2.1 x4).2.1).2) ((rdD (0, 0) x1.1 (rdD (0, 0, 0) x1.2.1 x4).2.2).1, (rdD (0, 0) x1.1 (rdD (0, 0, 0) x1.2.1 x4).2.2).2)) fun r5 =>
 bnd (zh (x3.1, x3.2) (r5.1, r5.2)) fun r6 =>
 next0 ((x1.1, x1.2.1, x1.2.2), (x2.1, x2.2), (r6.1, r6.2), w64 (x4 + 1))
 else
 some (x3.1, x3.2)) k ((a0.1, a0.2.1, a0.2.2), (false, []), (false, []), 0)
theorem ze6 (k:Nat) (qk:PPt→PPt→PPt→Option (Bool×(List Int))) (zh:(Bool×(List Int))→(Bool×(List Int))→Option (Bool×(List Int))) (a0:TMs):zP [⟨65,[.d kPP,.d kPP,.d kPP],[.pair .bool (.sl kI)],fun x=>qk (x.1) (x.2.1) (x.2.2),none⟩,⟨64,[.d (.pair .bool (.sl kI)),.d (.pair .bool (.sl kI))],[.pair .bool (.sl kI)],fun x=>zh (x.1) (x.2),none⟩] tb k Tryz.f24 zaj [.d (.pair kLP (.pair (.sl (.pair kI kPP)) kLP))] [.pair .bool (.sl kI)] a0=KD k qk zh a0:=by kernel_rfl
def ZI (k:Nat) (a0:TMs):Option (Bool×(List Int)):=KD k (qu k) (zn k) a0
theorem zcR (k:Nat):zx Tryz.prog 24 [.d (.pair kLP (.pair (.sl (.pair kI kPP)) kLP))] [.pair .bool (.sl kI)] (fun x=>ZI k x):=fun x y h=>zk zR mix (zp.cons (ze.of rfl (Ja k)) (zp.cons (ze.of rfl (qq k)) (zp.nil _))) Tryz.func24 (N:=k) (an:=zaj) (by kernel_rfl) x y ((ze6 k (qu k) (zn k) x).trans h)
def Yn:Ann:=uNn uLf (uNn (uNn (.node (some [(0,.d kI),(1,.d kLP),(15,.d .bool)]) none uLf uLf) uLf) (uNn (uNn uLf (uNn (.node none (some [(0,.d kI),(1,.d kLP),(6,.d kI)]) (uNn uLf (uNn (uNn (uNn uLf (uNn (.node (some [(0,.d kI),(1,.d kLP),(6,.d kI),(52,.d .bool)]) none uLf uLf) uLf)) uLf) uLf)) uLf) uLf)) (uNn uLf (uNn (uNn uLf (uNn (.node none (some [(1,.d kLP),(8,.row kI 3),(9,.d kI)]) uLf uLf) uLf)) uLf))))
def jq (k : Nat) (a0 : Int) (a1 : LPt) : Option ((List Int) × Int) :=
 zz (α := (Int × (LPt × Bool))) (fun (y0, y1, y2) =>
 bif y2 then
 some ([], 2)
 else
 zA (α := (Int × (LPt × Int))) (fun (x4, x5, x6) next3 =>
 bif decide (x6 < (x5.length : Int)) then
 gd (inb x6 x5.length) <|
 zz (α := (Int × (LPt × (Int × Bool)))) (fun (y7, y8, y9, y10) =>
 bif y10 then
 some ([], 2)
 else
 next3 (y7, y8, w64 (y9 + 1))) fun j11 =>
 bif decide ((rdD (0, 0) x5 x6).1 = (rdD (0, 0) x5 x6).2) then
 j11 (x4, x5, x6, true)
 else
 bif decide ((rdD (0, 0) x5 x6).1 < 0) then
 j11 (x4, x5, x6, true)
 else
 bif decide ((rdD (0, 0) x5 x6).1 ≥ x4) then
 j11 (x4, x5, x6, true)
 else
 bif decide ((rdD (0, 0) x5 x6).2 < 0) then
 j11 (x4, x5, x6, true)
 else
 j11 (x4, x5, x6, decide ((rdD (0, 0) x5 x6).2 ≥ x4))
 else
 gd (decide (0 ≤ x4)) <|
 gd (zgc x4) <|
 zA (α := (LPt × ((List Int) × Int))) (fun (x13, x14, x15) next12 =>
 bif decide (x15 < (x13.length : Int)) then
 gd (inb x15 x13.length) <|
 gd (inb (rdD (0, 0) x13 x15).1 x14.length) <|
 gd (inb (rdD (0, 0) x13 x15).1 x14.length) <|
 gd (inb x15 x13.length) <|
 gd (inb (rdD (0, 0) x13 x15).2 x14.length) <|
 gd (inb (rdD (0, 0) x13 x15).2 x14.length) <|
 next12 (x13, stL (stL x14 (rdD (0, 0) x13 x15).1 (w64 ((rdD 0 x14 (rdD (0, 0) x13 x15).1) + 1))) (rdD (0, 0) x13 x15).2 (w64 ((rdD 0 (stL x14 (rdD (0, 0) x13 x15).1 (w64 ((rdD 0 x14 (rdD (0, 0) x13 x15).1) + 1))) (rdD (0, 0) x13 x15).2) + 1)), w64 (x15 + 1))
 else
 some (x14, 0)) k (x5, rpL x4 0, 0)) k (y0, y1, 0)) fun j16 =>
 bif decide (a0 < 0) then
 j16 (a0, a1, true)
 else
 j16 (a0, a1, decide (a0 > 1048576))
theorem zcD (k:Nat) (a0:Int) (a1:LPt):zP [] tb k Tryz.f75 Yn [.d kI,.d kLP] [.sl kI,kI] (a0,a1)=jq k a0 a1:=by kernel_rfl
theorem zbp (k:Nat):zx Tryz.prog 75 [.d kI,.d kLP] [.sl kI,kI] (fun x=>jq k (x.1) (x.2)):=fun x y h=>zk zR mix (zp.nil _) Tryz.func75 (N:=k) (an:=Yn) (by kernel_rfl) x y ((zcD k (x.1) (x.2)).trans h)
def XS:Ann:=uNn uLf (uNn (.node (some [(4,.d .bool)]) none uLf uLf) uLf)
def jY (k : Nat) (a0 : PPt) (a1 : PPt) : Option Bool :=
 zz (α := Bool) (fun y0 =>
 some y0) fun j1 =>
 bif decide (a0.1 = a1.1) then
 bif decide (a0.2 = a1.2) then
 j1 true
 else
 bif decide (a0.1 = a1.2) then
 j1 (decide (a0.2 = a1.1))
 else
 j1 false
 else
 bif decide (a0.1 = a1.2) then
 j1 (decide (a0.2 = a1.1))
 else
 j1 false
theorem zeJ (k:Nat) (a0:PPt) (a1:PPt):zP [] tb k Tryz.f76 XS [.d kPP,.d kPP] [.bool] (a0,a1)=jY k a0 a1:=by kernel_rfl
theorem zcO (k:Nat):zx Tryz.prog 76 [.d kPP,.d kPP] [.bool] (fun x=>jY k (x.1) (x.2)):=fun x y h=>zk zR mix (zp.nil _) Tryz.func76 (N:=k) (an:=XS) (by kernel_rfl) x y ((zeJ k (x.1) (x.2)).trans h)
def YA:Ann:=uNn uLf (uNn uLf (uNn (uNn uLf (uNn (.node none (some [(0,.d kLP),(1,.d kI),(2,.d (.sl kI)),(7,.d kI),(8,.d kI)]) (uNn uLf (uNn (uNn (uNn uLf (uNn (uNn uLf (.node (some [(0,.d kLP),(1,.d kI),(2,.d (.sl kI)),(7,.d kI),(8,.d kI),(9,.d kI)]) none uLf uLf)) (uNn (uNn uLf (.node (some [(0,.d kLP),(1,.d kI),(2,.d (.sl kI)),(7,.d kI),(8,.d kI),(9,.d kI)]) none uLf uLf)) (uNn (uNn uLf (uNn (.node none (some [(0,.d kLP),(1,.d kI),(2,.d (.sl kI)),(7,.d kI),(8,.d kI),(9,.d kI),(10,.d kI)]) (uNn uLf (uNn (uNn (uNn uLf (.node (some [(0,.d kLP),(1,.d kI),(2,.d (.sl kI)),(7,.d kI),(8,.d kI),(9,.d kI),(10,.d kI)]) none uLf uLf)) uLf) uLf)) uLf) uLf)) (uNn (.node (some [(0,.d kLP),(1,.d kI),(2,.d (.sl kI)),(7,.d kI),(8,.d kI),(9,.d kI),(63,.d .bool)]) none uLf uLf) (.node (some [(0,.d kLP),(1,.d kI),(2,.d (.sl kI)),(7,.d kI),(8,.d kI)]) none uLf uLf)))))) uLf) uLf)) uLf) uLf)) uLf))
def jy (k : Nat) (a0 : LPt) (a1 : Int) (a2 : (List Int)) : Option Int :=
 zA (α := (LPt × (Int × ((List Int) × PPt)))) (fun (x1, x2, x3, x4, x5) next0 =>
 bif decide (x5 < (x1.length : Int)) then
 gd (inb x5 x1.length) <|
 zz (α := (LPt × (Int × ((List Int) × (Int × PPt))))) (fun (y6, y7, y8, y9, y10, y11) =>
 gd (inb y10 y6.length) <|
 zz (α := (LPt × (Int × ((List Int) × (Int × PPt))))) (fun (y12, y13, y14, y15, y16, y17) =>
 zA (α := (LPt × (Int × ((List Int) × (Int × (Int × PPt)))))) (fun (x19, x20, x21, x22, x23, x24, x25) next18 =>
 bif decide (x25 < (x21.length : Int)) then
 gd (inb x25 x21.length) <|
 zz (α := (LPt × (Int × ((List Int) × (Int × (Int × PPt)))))) (fun (y26, y27, y28, y29, y30, y31, y32) =>
 next18 (y26, y27, y28, y29, y30, y31, w64 (y32 + 1))) fun j33 =>
 bif decide ((rdD 0 x21 x25) = x24) then
 j33 (x19, x20, x21, x22, x23, (-1), x25)
 else
 j33 (x19, x20, x21, x22, x23, x24, x25)
 else
 zz (α := (LPt × (Int × ((List Int) × (Int × (Int × (Int × Bool))))))) (fun (y34, y35, y36, y37, y38, y39, y40) =>
 zz (α := (LPt × (Int × ((List Int) × PPt)))) (fun (y41, y42, y43, y44, y45) =>
 next0 (y41, y42, y43, y44, w64 (y45 + 1))) fun j46 =>
 bif y40 then
 j46 (y34, y35, y36, y39, y38)
 else
 j46 (y34, y35, y36, y37, y38)) fun j47 =>
 bif decide (x24 ≥ 0) then
 bif decide (x22 < 0) then
 j47 (x19, x20, x21, x22, x23, x24, true)
 else
 j47 (x19, x20, x21, x22, x23, x24, decide (x24 < x22))
 else
 j47 (x19, x20, x21, x22, x23, x24, false)) k (y12, y13, y14, y15, y16, y17, 0)) fun j48 =>
 bif decide ((rdD (0, 0) y6 y10).2 = y7) then
 gd (inb y10 y6.length) <|
 j48 (y6, y7, y8, y9, y10, (rdD (0, 0) y6 y10).1)
 else
 j48 (y6, y7, y8, y9, y10, y11)) fun j49 =>
 bif decide ((rdD (0, 0) x1 x5).1 = x2) then
 gd (inb x5 x1.length) <|
 j49 (x1, x2, x3, x4, x5, (rdD (0, 0) x1 x5).2)
 else
 j49 (x1, x2, x3, x4, x5, (-1))
 else
 some x4) k (a0, a1, a2, (-1), 0)
theorem zdV (k:Nat) (a0:LPt) (a1:Int) (a2:(List Int)):zP [] tb k Tryz.f77 YA [.d kLP,.d kI,.d (.sl kI)] [kI] (a0,a1,a2)=jy k a0 a1 a2:=by kernel_rfl
theorem zbG (k:Nat):zx Tryz.prog 77 [.d kLP,.d kI,.d (.sl kI)] [kI] (fun x=>jy k (x.1) (x.2.1) (x.2.2)):=fun x y h=>zk zR mix (zp.nil _) Tryz.func77 (N:=k) (an:=YA) (by kernel_rfl) x y ((zdV k (x.1) (x.2.1) (x.2.2)).trans h)
def Xc:Ann:=uNn uLf (uNn uLf (uNn uLf (uNn (uNn uLf (uNn (.node none (some [(0,.d kI),(1,.d kLP),(7,.d (.sl kI)),(9,.d kI)]) (uNn uLf (uNn (uNn (uNn uLf (uNn (.node none (some [(0,.d kI),(1,.d kLP),(7,.d (.sl kI)),(9,.d kI),(10,.d kI)]) uLf uLf) uLf)) uLf) uLf)) uLf) uLf)) (uNn (uNn uLf (uNn (.node none (some [(0,.d kI),(1,.d kLP),(7,.d (.sl kI)),(11,.d kI)]) (uNn uLf (uNn (uNn (uNn (.node (some [(0,.d kI),(1,.d kLP),(7,.d (.sl kI)),(11,.d kI),(65,.d .bool)]) none uLf uLf) uLf) uLf) uLf)) uLf) uLf)) (uNn uLf (uNn uLf (uNn (uNn uLf (uNn (.node none (some [(0,.d kI),(1,.d kLP),(7,.d (.sl kI)),(12,.row (.sl kI) 49),(13,.row kI 3),(14,.d kI)]) (uNn uLf (uNn (.node (some [(0,.d kI),(1,.d kLP),(7,.d (.sl kI)),(12,.row (.sl kI) 49),(13,.row kI 3),(14,.d kI)]) none (uNn uLf (uNn (uNn uLf (uNn (.node none (some [(0,.d kI),(1,.d kLP),(7,.d (.sl kI)),(12,.row (.sl kI) 49),(13,.row kI 3),(14,.d kI),(15,.d .bool),(16,.d kI)]) (uNn uLf (uNn (uNn (.node (some [(0,.d kI),(1,.d kLP),(7,.d (.sl kI)),(12,.row (.sl kI) 49),(13,.row kI 3),(14,.d kI),(15,.d .bool),(16,.d kI)]) none uLf uLf) uLf) uLf)) uLf) uLf)) (uNn uLf (uNn uLf (uNn (uNn (.node none (some [(0,.d kI),(1,.d kLP),(7,.d (.sl kI)),(12,.row (.sl kI) 49),(13,.row kI 3),(14,.d kI),(17,.row kI 3)]) uLf uLf) uLf) uLf))))) uLf) uLf)) uLf) uLf)) uLf)))))))
def JV (k : Nat) (ZT : Int → LPt → Option ((List Int) × Int)) (QW : PPt → PPt → Option Bool) (Qe : LPt → Int → (List Int) → Option Int) (a0 : Int) (a1 : LPt) : Option ((List (List Int)) × Int × Int) :=
 bnd (ZT a0 a1) fun r0 =>
 bif !(decide (r0.2 = 0)) then
 some ([], 0, r0.2)
 else
 zA (α := (Int × (LPt × ((List Int) × Int)))) (fun (x2, x3, x4, x5) next1 =>
 bif decide (x5 < (x3.length : Int)) then
 zA (α := (Int × (LPt × ((List Int) × PPt)))) (fun (x7, x8, x9, x10, x11) next6 =>
 bif decide (x11 < x10) then
 gd (inb x10 x8.length) <|
 gd (inb x11 x8.length) <|
 bnd (QW ((rdD (0, 0) x8 x10).1, (rdD (0, 0) x8 x10).2) ((rdD (0, 0) x8 x11).1, (rdD (0, 0) x8 x11).2)) fun r12 =>
 bif r12 then
 some ([], x10, 80)
 else
 next6 (x7, x8, x9, x10, w64 (x11 + 1))
 else
 next1 (x7, x8, x9, w64 (x10 + 1))) k (x2, x3, x4, x5, 0)
 else
 zA (α := (Int × (LPt × ((List Int) × Int)))) (fun (x14, x15, x16, x17) next13 =>
 bif decide (x17 < x14) then
 zz (α := (Int × (LPt × ((List Int) × (Int × Bool))))) (fun (y18, y19, y20, y21, y22) =>
 bif y22 then
 some ([], y21, 81)
 else
 next13 (y18, y19, y20, w64 (y21 + 1))) fun j23 =>
 gd (inb x17 x16.length) <|
 bif !(decide ((rdD 0 x16 x17) = 0)) then
 gd (inb x17 x16.length) <|
 j23 (x14, x15, x16, x17, !(decide ((rdD 0 x16 x17) = 2)))
 else
 j23 (x14, x15, x16, x17, false)
 else
 zA (α := (Int × (LPt × ((List Int) × ((List (List Int)) × ((List Int) × Int)))))) (fun (x25, x26, x27, x28, x29, x30) next24 =>
 bif decide (x30 < x25) then
 zz (α := (Int × (LPt × ((List Int) × ((List (List Int)) × ((List Int) × Int)))))) (fun (y31, y32, y33, y34, y35, y36) =>
 next24 (y31, y32, y33, y34, y35, w64 (y36 + 1))) fun j37 =>
 gd (inb x30 x27.length) <|
 zA (α := (Int × (LPt × ((List Int) × ((List (List Int)) × ((List Int) × (Int × (Bool × Int)))))))) (fun (x39, x40, x41, x42, x43, x44, x45, x46) next38 =>
 bif decide (x46 < (x43.length : Int)) then
 zz (α := (Int × (LPt × ((List Int) × ((List (List Int)) × ((List Int) × (Int × (Bool × Int)))))))) (fun (y47, y48, y49, y50, y51, y52, y53, y54) =>
 next38 (y47, y48, y49, y50, y51, y52, y53, w64 (y54 + 1))) fun j55 =>
 bif x45 then
 j55 (x39, x40, x41, x42, x43, x44, true, x46)
 else
 gd (inb x46 x43.length) <|
 j55 (x39, x40, x41, x42, x43, x44, decide ((rdD 0 x43 x46) = x44), x46)
 else
 bif x45 then
 j37 (x39, x40, x41, x42, x43, x44)
 else
 zA (α := (Int × (LPt × ((List Int) × ((List (List Int)) × ((List Int) × (Int × (List Int)))))))) (fun (x57, x58, x59, x60, x61, x62, x63) next56 =>
 gd (inb (w64 ((x63.length : Int) - 1)) x63.length) <|
 bnd (Qe x58 (rdD 0 x63 (w64 ((x63.length : Int) - 1))) x63) fun r64 =>
 bif decide (r64 < 0) then
 gd (few (x60.length + 1)) <|
 gd (few (x61.length + x63.length)) <|
 j37 (x57, x58, x59, x60 ++ [x63], x61 ++ x63, x62)
 else
 gd (few (x63.length + 1)) <|
 next56 (x57, x58, x59, x60, x61, x62, x63 ++ [r64])) k (x39, x40, x41, x42, x43, x44, [x44])) k (x25, x26, x27, x28, x29, x30, decide ((rdD 0 x27 x30) = 0), 0)
 else
 some (x28, 0, 0)) k (x14, x15, x16, [], [], 0)) k (x2, x3, x4, 0)) k (a0, a1, r0.1, 0)
theorem zef (k:Nat) (ZT:Int→LPt→Option ((List Int)×Int)) (QW:PPt→PPt→Option Bool) (Qe:LPt→Int→(List Int)→Option Int) (a0:Int) (a1:LPt):zP [⟨75,[.d kI,.d kLP],[.sl kI,kI],fun x=>ZT (x.1) (x.2),none⟩,⟨76,[.d kPP,.d kPP],[.bool],fun x=>QW (x.1) (x.2),none⟩,⟨77,[.d kLP,.d kI,.d (.sl kI)],[kI],fun x=>Qe (x.1) (x.2.1) (x.2.2),none⟩] tb k Tryz.f35 Xc [.d kI,.d kLP] [.sl (.sl kI),kI,kI] (a0,a1)=JV k ZT QW Qe a0 a1:=by kernel_rfl
def Zu (k:Nat) (a0:Int) (a1:LPt):Option ((List (List Int))×Int×Int):=JV k (jq k) (jY k) (jy k) a0 a1
theorem zca (k:Nat):zx Tryz.prog 35 [.d kI,.d kLP] [.sl (.sl kI),kI,kI] (fun x=>Zu k (x.1) (x.2)):=fun x y h=>zk zR mix (zp.cons (ze.of rfl (zbp k)) (zp.cons (ze.of rfl (zcO k)) (zp.cons (ze.of rfl (zbG k)) (zp.nil _)))) Tryz.func35 (N:=k) (an:=Xc) (by kernel_rfl) x y ((zef k (jq k) (jY k) (jy k) (x.1) (x.2)).trans h)
def zac:Ann:=uNn uLf (uNn uLf (uNn (uNn uLf (uNn (.node none (some [(0,.d (.sl kI)),(3,.row kPP 60),(4,.d kI)]) (uNn uLf (uNn (uNn (uNn uLf (uNn (uNn uLf (.node (some [(0,.d (.sl kI)),(3,.row kPP 60),(4,.d kI),(5,.d kI)]) none uLf uLf)) uLf)) uLf) uLf)) uLf) uLf)) uLf))
def jZ (k : Nat) (a0 : (List Int)) : Option LPt :=
 zA (α := ((List Int) × (LPt × Int))) (fun (x1, x2, x3) next0 =>
 bif decide (x3 < (x1.length : Int)) then
 zz (α := ((List Int) × (LPt × PPt))) (fun (y4, y5, y6, y7) =>
 gd (inb y6 y4.length) <|
 gd (inb y7 y4.length) <|
 gd (few (y5.length + 1)) <|
 next0 (y4, y5 ++ [(rdD 0 y4 y6, rdD 0 y4 y7)], w64 (y6 + 1))) fun j8 =>
 bif decide ((w64 (x3 + 1)) = (x1.length : Int)) then
 j8 (x1, x2, x3, 0)
 else
 j8 (x1, x2, x3, w64 (x3 + 1))
 else
 some x2) k (a0, [], 0)
theorem zfC (k:Nat) (a0:(List Int)):zP [] tb k Tryz.f104 zac [.d (.sl kI)] [.sl kPP] a0=jZ k a0:=by kernel_rfl
theorem zcW (k:Nat):zx Tryz.prog 104 [.d (.sl kI)] [.sl kPP] (fun x=>jZ k x):=fun x y h=>zk zR mix (zp.nil _) Tryz.func104 (N:=k) (an:=zac) (by kernel_rfl) x y ((zfC k x).trans h)
def X0:Ann:=uNn uLf (uNn (uNn uLf (uNn (.node none (some [(0,.d kLP),(1,.d (.sl (.sl kI))),(6,.d kI)]) (uNn uLf (uNn (uNn (uNn (.node (some [(0,.d kLP),(1,.d (.sl (.sl kI))),(6,.d kI),(32,.d .bool)]) none uLf uLf) uLf) uLf) uLf)) uLf) uLf)) (uNn uLf (uNn (uNn uLf (uNn (.node none (some [(0,.d kLP),(1,.d (.sl (.sl kI))),(7,.row kI 3),(8,.d kI)]) (uNn uLf (uNn (uNn (uNn uLf (uNn (uNn uLf (uNn (.node none (some [(0,.d kLP),(1,.d (.sl (.sl kI))),(7,.row kI 3),(8,.d kI),(9,.d kI),(10,.d kI)]) (uNn uLf (uNn (uNn (uNn (.node (some [(0,.d kLP),(1,.d (.sl (.sl kI))),(7,.row kI 3),(8,.d kI),(9,.d kI),(10,.d kI),(66,.d .bool)]) none uLf uLf) (.node (some [(0,.d kLP),(1,.d (.sl (.sl kI))),(7,.row kI 3),(8,.d kI),(9,.d kI),(10,.d kI)]) none uLf uLf)) uLf) uLf)) uLf) uLf)) uLf)) uLf) uLf)) uLf) uLf)) uLf)))
def KE (k : Nat) (ZF : (List Int) → Option LPt) (qO : LPt → LPt → Int → Option Bool) (qe : LPt → LPt → Int → PPt → Option Int) (a0 : LPt) (a1 : (List (List Int))) : Option ((List Int) × Int) :=
 zA (α := (LPt × ((List (List Int)) × Int))) (fun (x1, x2, x3) next0 =>
 bif decide (x3 < (x2.length : Int)) then
 zz (α := (LPt × ((List (List Int)) × (Int × Bool)))) (fun (y4, y5, y6, y7) =>
 bif y7 then
 some ([], 2)
 else
 next0 (y4, y5, w64 (y6 + 1))) fun j8 =>
 gd (inb x3 x2.length) <|
 bif decide (((rdD [] x2 x3).length : Int) = 0) then
 j8 (x1, x2, x3, true)
 else
 gd (inb x3 x2.length) <|
 bnd (ZF (rdD [] x2 x3)) fun r9 =>
 bnd (qO x1 r9 1) fun r10 =>
 j8 (x1, x2, x3, !r10)
 else
 zA (α := (LPt × ((List (List Int)) × ((List Int) × Int)))) (fun (x12, x13, x14, x15) next11 =>
 bif decide (x15 < (x13.length : Int)) then
 zA (α := (LPt × ((List (List Int)) × ((List Int) × (Int × PPt))))) (fun (x17, x18, x19, x20, x21, x22) next16 =>
 bif decide (x22 < (x18.length : Int)) then
 zz (α := (LPt × ((List (List Int)) × ((List Int) × (Int × (Int × (Int × Bool))))))) (fun (y23, y24, y25, y26, y27, y28, y29) =>
 zz (α := (LPt × ((List (List Int)) × ((List Int) × (Int × PPt))))) (fun (y30, y31, y32, y33, y34, y35) =>
 next16 (y30, y31, y32, y33, y34, w64 (y35 + 1))) fun j36 =>
 bif y29 then
 j36 (y23, y24, y25, y26, w64 (y27 + 1), y28)
 else
 j36 (y23, y24, y25, y26, y27, y28)) fun j37 =>
 bif !(decide (x22 = x20)) then
 gd (inb x22 x18.length) <|
 bnd (ZF (rdD [] x18 x22)) fun r38 =>
 gd (inb x20 x18.length) <|
 gd (inb 0 (rdD [] x18 x20).length) <|
 gd (inb (rdD 0 (rdD [] x18 x20) 0) x17.length) <|
 bnd (qe x17 r38 1 ((rdD (0, 0) x17 (rdD 0 (rdD [] x18 x20) 0)).1, (rdD (0, 0) x17 (rdD 0 (rdD [] x18 x20) 0)).2)) fun r39 =>
 j37 (x17, x18, x19, x20, x21, x22, decide (r39 = 1))
 else
 j37 (x17, x18, x19, x20, x21, x22, false)
 else
 gd (few (x19.length + 1)) <|
 next11 (x17, x18, x19 ++ [x21], w64 (x20 + 1))) k (x12, x13, x14, x15, 0, 0)
 else
 some (x14, 0)) k (x1, x2, [], 0)) k (a0, a1, 0)
theorem zfN (k:Nat) (ZF:(List Int)→Option LPt) (qO:LPt→LPt→Int→Option Bool) (qe:LPt→LPt→Int→PPt→Option Int) (a0:LPt) (a1:(List (List Int))):zP [⟨104,[.d (.sl kI)],[.sl kPP],fun x=>ZF x,none⟩,⟨79,[.d kLP,.d kLP,.d kI],[.bool],fun x=>qO (x.1) (x.2.1) (x.2.2),none⟩,⟨80,[.d kLP,.d kLP,.d kI,.d kPP],[kI],fun x=>qe (x.1) (x.2.1) (x.2.2.1) (x.2.2.2),none⟩] tb k Tryz.f78 X0 [.d kLP,.d (.sl (.sl kI))] [.sl kI,kI] (a0,a1)=KE k ZF qO qe a0 a1:=by kernel_rfl
def Za (k:Nat) (a0:LPt) (a1:(List (List Int))):Option ((List Int)×Int):=KE k (jZ k) (jk k) (qC k) a0 a1
theorem zc5 (k:Nat):zx Tryz.prog 78 [.d kLP,.d (.sl (.sl kI))] [.sl kI,kI] (fun x=>Za k (x.1) (x.2)):=fun x y h=>zk zR mix (zp.cons (ze.of rfl (zcW k)) (zp.cons (ze.of rfl (KM k)) (zp.cons (ze.of rfl (QS k)) (zp.nil _)))) Tryz.func78 (N:=k) (an:=X0) (by kernel_rfl) x y ((zfN k (jZ k) (jk k) (qC k) (x.1) (x.2)).trans h)
def X6:Ann:=uLf
def KF (k : Nat) (Q2 : LPt → (List (List Int)) → Option ((List Int) × Int)) (a0 : TPl) (a1 : (List (List Int))) : Option (List Int) :=
 bnd (Q2 a0.1 a1) fun r0 =>
 some r0.1
theorem ze0 (k:Nat) (Q2:LPt→(List (List Int))→Option ((List Int)×Int)) (a0:TPl) (a1:(List (List Int))):zP [⟨78,[.d kLP,.d (.sl (.sl kI))],[.sl kI,kI],fun x=>Q2 (x.1) (x.2),none⟩] tb k Tryz.f36 X6 [.d kPl,.d (.sl (.sl kI))] [.sl kI] (a0,a1)=KF k Q2 a0 a1:=by kernel_rfl
def ZH (k:Nat) (a0:TPl) (a1:(List (List Int))):Option (List Int):=KF k (Za k) a0 a1
theorem zdg (k:Nat):zx Tryz.prog 36 [.d kPl,.d (.sl (.sl kI))] [.sl kI] (fun x=>ZH k (x.1) (x.2)):=fun x y h=>zk zR mix (zp.cons (ze.of rfl (zc5 k)) (zp.nil _)) Tryz.func36 (N:=k) (an:=X6) (by kernel_rfl) x y ((ze0 k (Za k) (x.1) (x.2)).trans h)
def X4:Ann:=uNn uLf (uNn uLf (uNn (uNn uLf (uNn (.node none (some [(0,.d kLP),(1,.d (.sl kI)),(4,.box [.d .bool,.row kI 3]),(6,.d kI)]) (uNn uLf (uNn (uNn (uNn (.node (some [(0,.d kLP),(1,.d (.sl kI)),(4,.box [.d .bool,.row kI 3]),(6,.d kI),(43,.d .bool)]) none uLf uLf) uLf) uLf) uLf)) uLf) uLf)) (uNn uLf (uNn (uNn uLf (uNn (.node none (some [(0,.d kLP),(1,.d (.sl kI)),(4,.box [.d .bool,.row kI 3]),(7,.box [.d (.pair .bool (.sl kI))]),(8,.d kI)]) uLf uLf) uLf)) uLf))))
def KB (k : Nat) (zm : PPt → Option Bool) (qk : PPt → PPt → PPt → Option (Bool × (List Int))) (zh : (Bool × (List Int)) → (Bool × (List Int)) → Option (Bool × (List Int))) (a0 : LPt) (a1 : (List Int)) : Option ((Bool × (List Int)) × Int) :=
 bif decide ((a1.length : Int) > 1048576) then
 some ((false, []), 2)
 else
 zA (α := (LPt × ((List Int) × ((Bool × (List Int)) × Int)))) (fun (x1, x2, x3, x4) next0 =>
 bif decide (x4 < (x2.length : Int)) then
 zz (α := (LPt × ((List Int) × ((Bool × (List Int)) × (Int × Bool))))) (fun (y5, y6, y7, y8, y9) =>
 bif y9 then
 some ((false, []), 2)
 else
 next0 (y5, y6, (y7.1, y7.2), w64 (y8 + 1))) fun j10 =>
 gd (inb x4 x2.length) <|
 bif decide ((rdD 0 x2 x4) < 0) then
 j10 (x1, x2, (x3.1, x3.2), x4, true)
 else
 gd (inb x4 x2.length) <|
 bif decide ((rdD 0 x2 x4) ≥ (x1.length : Int)) then
 j10 (x1, x2, (x3.1, x3.2), x4, true)
 else
 gd (inb x4 x2.length) <|
 gd (inb (rdD 0 x2 x4) x1.length) <|
 bnd (zm ((rdD (0, 0) x1 (rdD 0 x2 x4)).1, (rdD (0, 0) x1 (rdD 0 x2 x4)).2)) fun r11 =>
 j10 (x1, x2, (x3.1, x3.2), x4, !r11)
 else
 zA (α := (LPt × ((List Int) × ((Bool × (List Int)) × ((Bool × (List Int)) × Int))))) (fun (x13, x14, x15, x16, x17) next12 =>
 bif decide (x17 < (x14.length : Int)) then
 gd (inb 0 x14.length) <|
 gd (inb (rdD 0 x14 0) x13.length) <|
 gd (inb (w64 (x17 - 1)) x14.length) <|
 gd (inb (rdD 0 x14 (w64 (x17 - 1))) x13.length) <|
 gd (inb x17 x14.length) <|
 gd (inb (rdD 0 x14 x17) x13.length) <|
 bnd (qk ((rdD (0, 0) x13 (rdD 0 x14 0)).1, (rdD (0, 0) x13 (rdD 0 x14 0)).2) ((rdD (0, 0) x13 (rdD 0 x14 (w64 (x17 - 1)))).1, (rdD (0, 0) x13 (rdD 0 x14 (w64 (x17 - 1)))).2) ((rdD (0, 0) x13 (rdD 0 x14 x17)).1, (rdD (0, 0) x13 (rdD 0 x14 x17)).2)) fun r18 =>
 bnd (zh (x16.1, x16.2) (r18.1, r18.2)) fun r19 =>
 next12 (x13, x14, (x15.1, x15.2), (r19.1, r19.2), w64 (x17 + 1))
 else
 some ((x16.1, x16.2), 0)) k (x1, x2, (x3.1, x3.2), (false, []), 2)) k (a0, a1, (false, []), 0)
theorem zfa (k:Nat) (zm:PPt→Option Bool) (qk:PPt→PPt→PPt→Option (Bool×(List Int))) (zh:(Bool×(List Int))→(Bool×(List Int))→Option (Bool×(List Int))) (a0:LPt) (a1:(List Int)):zP [⟨72,[.d kPP],[.bool],fun x=>zm x,none⟩,⟨65,[.d kPP,.d kPP,.d kPP],[.pair .bool (.sl kI)],fun x=>qk (x.1) (x.2.1) (x.2.2),none⟩,⟨64,[.d (.pair .bool (.sl kI)),.d (.pair .bool (.sl kI))],[.pair .bool (.sl kI)],fun x=>zh (x.1) (x.2),none⟩] tb k Tryz.f68 X4 [.d kLP,.d (.sl kI)] [.pair .bool (.sl kI),kI] (a0,a1)=KB k zm qk zh a0 a1:=by kernel_rfl
def jX (k:Nat) (a0:LPt) (a1:(List Int)):Option ((Bool×(List Int))×Int):=KB k (zV k) (qu k) (zn k) a0 a1
theorem zcT (k:Nat):zx Tryz.prog 68 [.d kLP,.d (.sl kI)] [.pair .bool (.sl kI),kI] (fun x=>jX k (x.1) (x.2)):=fun x y h=>zk zR mix (zp.cons (ze.of rfl (jh k)) (zp.cons (ze.of rfl (Ja k)) (zp.cons (ze.of rfl (qq k)) (zp.nil _)))) Tryz.func68 (N:=k) (an:=X4) (by kernel_rfl) x y ((zfa k (zV k) (qu k) (zn k) (x.1) (x.2)).trans h)
def YS:Ann:=uNn uLf (uNn uLf (uNn uLf (uNn uLf (uNn (uNn uLf (uNn (.node none (some [(1,.box [.d kPl]),(2,.box [.d .bool,.row kI 3]),(3,.d (.sl (.sl kI))),(6,.box [.d (.pair .bool (.sl kI))]),(7,.d (.sl kI)),(8,.d kI)]) (uNn uLf (uNn (uNn (uNn uLf (uNn (uNn uLf (.node (some [(1,.box [.d kPl]),(2,.box [.d .bool,.row kI 3]),(3,.d (.sl (.sl kI))),(6,.box [.d (.pair .bool (.sl kI))]),(7,.d (.sl kI)),(8,.d kI),(9,.box [.d (.pair .bool (.sl kI))])]) none uLf uLf)) (uNn (uNn uLf (.node (some [(1,.box [.d kPl]),(2,.box [.d .bool,.row kI 3]),(3,.d (.sl (.sl kI))),(6,.box [.d (.pair .bool (.sl kI))]),(7,.d (.sl kI)),(8,.d kI),(9,.box [.d (.pair .bool (.sl kI))])]) none uLf uLf)) uLf))) uLf) uLf)) uLf) uLf)) uLf))))
def JK (k : Nat) (Qr : Int → LPt → Option ((List (List Int)) × Int × Int)) (Q1 : TPl → (List (List Int)) → Option (List Int)) (QV : LPt → (List Int) → Option ((Bool × (List Int)) × Int)) (zv : (Bool × (List Int)) → Option Int) (zH : (Bool × (List Int)) → Option (Bool × (List Int))) (zh : (Bool × (List Int)) → (Bool × (List Int)) → Option (Bool × (List Int))) (a0 : TPl) : Option (Bool × (List Int)) :=
 bnd (Qr (a0.1.length : Int) a0.2.1) fun r0 =>
 bnd (Q1 (a0.1, a0.2.1, a0.2.2) r0.1) fun r1 =>
 zA (α := (TPl × ((Bool × (List Int)) × ((List (List Int)) × ((Bool × (List Int)) × ((List Int) × Int)))))) (fun (x3, x4, x5, x6, x7, x8) next2 =>
 bif decide (x8 < (x5.length : Int)) then
 gd (inb x8 x5.length) <|
 bnd (QV x3.1 (rdD [] x5 x8)) fun r9 =>
 bnd (zv (r9.1.1, r9.1.2)) fun r10 =>
 zz (α := (TPl × ((Bool × (List Int)) × ((List (List Int)) × ((Bool × (List Int)) × ((List Int) × (Int × (Bool × (List Int))))))))) (fun (y11, y12, y13, y14, y15, y16, y17, y18) =>
 gd (inb y16 y15.length) <|
 zz (α := (TPl × ((Bool × (List Int)) × ((List (List Int)) × ((Bool × (List Int)) × ((List Int) × (Int × (Bool × (List Int))))))))) (fun (y19, y20, y21, y22, y23, y24, y25, y26) =>
 bnd (zh (y22.1, y22.2) (y25, y26)) fun r27 =>
 next2 ((y19.1, y19.2.1, y19.2.2), (y20.1, y20.2), y21, (r27.1, r27.2), y23, w64 (y24 + 1))) fun j28 =>
 bif decide (((rdD 0 y15 y16).tmod 2) = 1) then
 bnd (zH (y17, y18)) fun r29 =>
 j28 ((y11.1, y11.2.1, y11.2.2), (y12.1, y12.2), y13, (y14.1, y14.2), y15, y16, r29.1, r29.2)
 else
 j28 ((y11.1, y11.2.1, y11.2.2), (y12.1, y12.2), y13, (y14.1, y14.2), y15, y16, y17, y18)) fun j30 =>
 bif decide (r10 < 0) then
 bnd (zH (r9.1.1, r9.1.2)) fun r31 =>
 j30 ((x3.1, x3.2.1, x3.2.2), (x4.1, x4.2), x5, (x6.1, x6.2), x7, x8, r31.1, r31.2)
 else
 j30 ((x3.1, x3.2.1, x3.2.2), (x4.1, x4.2), x5, (x6.1, x6.2), x7, x8, r9.1.1, r9.1.2)
 else
 some (x6.1, x6.2)) k ((a0.1, a0.2.1, a0.2.2), (false, []), r0.1, (false, []), r1, 0)
theorem zdj (k:Nat) (Qr:Int→LPt→Option ((List (List Int))×Int×Int)) (Q1:TPl→(List (List Int))→Option (List Int)) (QV:LPt→(List Int)→Option ((Bool×(List Int))×Int)) (zv:(Bool×(List Int))→Option Int) (zH:(Bool×(List Int))→Option (Bool×(List Int))) (zh:(Bool×(List Int))→(Bool×(List Int))→Option (Bool×(List Int))) (a0:TPl):zP [⟨35,[.d kI,.d kLP],[.sl (.sl kI),kI,kI],fun x=>Qr (x.1) (x.2),none⟩,⟨36,[.d kPl,.d (.sl (.sl kI))],[.sl kI],fun x=>Q1 (x.1) (x.2),none⟩,⟨68,[.d kLP,.d (.sl kI)],[.pair .bool (.sl kI),kI],fun x=>QV (x.1) (x.2),none⟩,⟨67,[.d (.pair .bool (.sl kI))],[kI],fun x=>zv x,none⟩,⟨66,[.d (.pair .bool (.sl kI))],[.pair .bool (.sl kI)],fun x=>zH x,none⟩,⟨64,[.d (.pair .bool (.sl kI)),.d (.pair .bool (.sl kI))],[.pair .bool (.sl kI)],fun x=>zh (x.1) (x.2),none⟩] tb k Tryz.f26 YS [.d kPl] [.pair .bool (.sl kI)] a0=JK k Qr Q1 QV zv zH zh a0:=by kernel_rfl
def jv (k:Nat) (a0:TPl):Option (Bool×(List Int)):=JK k (Zu k) (ZH k) (jX k) (zD k) (zN k) (zn k) a0
theorem zbK (k:Nat):zx Tryz.prog 26 [.d kPl] [.pair .bool (.sl kI)] (fun x=>jv k x):=fun x y h=>zk zR mix (zp.cons (ze.of rfl (zca k)) (zp.cons (ze.of rfl (zdg k)) (zp.cons (ze.of rfl (zcT k)) (zp.cons (ze.of rfl (je k)) (zp.cons (ze.of rfl (jS k)) (zp.cons (ze.of rfl (qq k)) (zp.nil _))))))) Tryz.func26 (N:=k) (an:=YS) (by kernel_rfl) x y ((zdj k (Zu k) (ZH k) (jX k) (zD k) (zN k) (zn k) x).trans h)
end
end Go.Proofs.YtpkkcjmblocjdaaGreat.AM
