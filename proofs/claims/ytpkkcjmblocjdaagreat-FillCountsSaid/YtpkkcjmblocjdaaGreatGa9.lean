/- The functions, by their texts: written by a program. -/
import Derived.Test.YtpkkcjmblocjdaaGreatGa8
import Derived.Test.YtpkkcjmblocjdaaGreatCln
set_option linter.unusedVariables false
set_option linter.unusedSimpArgs false
set_option linter.unusedSectionVars false
set_option maxRecDepth 100000
namespace Go.Proofs.YtpkkcjmblocjdaaGreat.AM
open Go.RowKit Go.Proofs
noncomputable section
def Jw:Ann:=uNn uLf (uNn (uNn (.node (some [(1,.box [.d kPl]),(21,.d .bool)]) none uLf uLf) uLf) (uNn uLf (uNn uLf (uNn uLf (uNn uLf (uNn uLf (uNn (uNn uLf (uNn (.node none (some [(1,.box [.d kPl]),(3,.box [.d (.pair kLP (.pair (.sl (.pair kI kPP)) kLP))]),(4,.d kI),(5,.d kLP),(6,.d kI),(10,.d (.sl kI)),(11,.d kI),(12,.d kI)]) uLf uLf) uLf)) (uNn uLf (uNn uLf (uNn (.node (some [(2,.d .bool)]) none uLf uLf) uLf))))))))))
def ZS (k : Nat) (Qu : TPl → Option Bool) (Z0 : TPl → Option Bool) (j3 : Option Bool) (Zz : TPl → Option (TMs × Int)) (qV : TPl → Option (LPt × Int)) (Qj : Int → LPt → Option ((List (List Int)) × Int × Int)) (Qv : TPl → (List (List Int)) → Option (List Int)) (a0 : TPl) : Option Bool :=
 zz (α := (TPl × Bool)) (fun (y0, y1) =>
 bif y1 then
 bnd (j3) fun r2 =>
 some r2
 else
 bnd (Zz (y0.1, y0.2.1, y0.2.2)) fun r3 =>
 bnd (qV (y0.1, y0.2.1, y0.2.2)) fun r4 =>
 bnd (Qj (y0.1.length : Int) y0.2.1) fun r5 =>
 bnd (Qv (y0.1, y0.2.1, y0.2.2) r5.1) fun r6 =>
 zA (α := (TPl × (TMs × (Int × (LPt × (Int × ((List Int) × PPt))))))) (fun (x8, x9, x10, x11, x12, x13, x14, x15) next7 =>
 bif decide (x15 < (x13.length : Int)) then
 gd (inb x15 x13.length) <|
 next7 ((x8.1, x8.2.1, x8.2.2), (x9.1, x9.2.1, x9.2.2), x10, x11, x12, x13, w64 ((w64 (x14 + 1)) - (w64 (2 * ((rdD 0 x13 x15).tmod 2)))), w64 (x15 + 1))
 else
 zz (α := Bool) (fun y16 =>
 some y16) fun j17 =>
 bif decide (x10 = 0) then
 bif decide (x12 = 0) then
 bif decide ((x9.2.1.length : Int) = (w64 ((w64 ((w64 (2 * (x8.1.length : Int))) - (x8.2.1.length : Int))) - (w64 (2 * x14))))) then
 bif decide ((x11.length : Int) = (w64 ((w64 ((w64 (3 * (x8.1.length : Int))) - (x8.2.1.length : Int))) - (w64 (3 * x14))))) then
 bnd (j3) fun r18 =>
 j17 r18
 else
 j17 false
 else
 j17 false
 else
 j17 false
 else
 j17 false) k ((y0.1, y0.2.1, y0.2.2), (r3.1.1, r3.1.2.1, r3.1.2.2), r3.2, r4.1, r4.2, r6, 0, 0)) fun j19 =>
 bnd (Qu (a0.1, a0.2.1, a0.2.2)) fun r20 =>
 bif r20 then
 j19 ((a0.1, a0.2.1, a0.2.2), true)
 else
 bnd (Z0 (a0.1, a0.2.1, a0.2.2)) fun r21 =>
 j19 ((a0.1, a0.2.1, a0.2.2), !r21)
theorem zar (k:Nat) (Qu:TPl→Option Bool) (Z0:TPl→Option Bool) (j3:Option Bool) (Zz:TPl→Option (TMs×Int)) (qV:TPl→Option (LPt×Int)) (Qj:Int→LPt→Option ((List (List Int))×Int×Int)) (Qv:TPl→(List (List Int))→Option (List Int)) (a0:TPl):zN [⟨10,[.d kPl],[.bool],fun x=>Qu x,none⟩,⟨20,[.d kPl],[.bool],fun x=>Z0 x,none⟩,⟨11,[],[.bool],fun x=>j3,none⟩,⟨15,[.d kPl],[.pair kLP (.pair (.sl (.pair kI kPP)) kLP),kI],fun x=>Zz x,none⟩,⟨13,[.d kPl],[.sl kPP,kI],fun x=>qV x,none⟩,⟨35,[.d kI,.d kLP],[.sl (.sl kI),kI,kI],fun x=>Qj (x.1) (x.2),none⟩,⟨36,[.d kPl,.d (.sl (.sl kI))],[.sl kI],fun x=>Qv (x.1) (x.2),none⟩] tbx k Tryz.f8 Jw [.d kPl] [.bool] a0=ZS k Qu Z0 j3 Zz qV Qj Qv a0:=by kernel_rfl
def jQ (k:Nat) (a0:TPl):Option Bool:=ZS k (jc k) (qD k) (ju k) (ZB k) (jl k) (jr k) (Zl k) a0
theorem Xr (k:Nat):zv Tryz.prog 8 [.d kPl] [.bool] (fun x=>jQ k x):=fun x y h=>zg zu7 mix (zp.cons (ze.of rfl (zb9 k)) (zp.cons (ze.of rfl (zbt k)) (zp.cons (ze.of rfl (zbn k)) (zp.cons (ze.of rfl (zc7 k)) (zp.cons (ze.of rfl (YP k)) (zp.cons (ze.of rfl (zbr k)) (zp.cons (ze.of rfl (zbX k)) (zp.nil _)))))))) Tryz.func8 (N:=k) (an:=Jw) (by kernel_rfl) x y ((zar k (jc k) (qD k) (ju k) (ZB k) (jl k) (jr k) (Zl k) x).trans h)
end
end Go.Proofs.YtpkkcjmblocjdaaGreat.AM
