/- The functions, by their texts: written by a program. -/
import Derived.Test.YtpkkcjmblocjdaaGreatGa2
import Derived.Test.YtpkkcjmblocjdaaGreatCln
set_option linter.unusedVariables false
set_option linter.unusedSimpArgs false
set_option linter.unusedSectionVars false
set_option maxRecDepth 100000
namespace Go.Proofs.YtpkkcjmblocjdaaGreat.AM
open Go.RowKit Go.Proofs
noncomputable section
def zjd:Ann:=uNn uLf (uNn uLf (uNn (uNn (.node (some [(2,.box [.d (.pair .bool (.pair (.int .u64) (.pair (.int .u64) (.pair (.int .u64) (.int .u64)))))]),(3,.box [.d (.pair .bool (.pair (.int .u64) (.pair (.int .u64) (.pair (.int .u64) (.int .u64)))))]),(5,.d kI),(6,.d kI),(17,.d .bool)]) none uLf uLf) uLf) uLf))
def zgE (k : Nat) (XL : (Bool × (Int × (Int × PPt))) → Option Int) (z7 : Int → Int → Option Int) (zbn : (Int × (Int × PPt)) → (Int × (Int × PPt)) → Option Int) (a0 : (Bool × (Int × (Int × PPt)))) (a1 : (Bool × (Int × (Int × PPt)))) : Option Int :=
 bnd (XL (a0.1, a0.2.1, a0.2.2.1, a0.2.2.2.1, a0.2.2.2.2)) fun r0 =>
 bnd (XL (a1.1, a1.2.1, a1.2.2.1, a1.2.2.2.1, a1.2.2.2.2)) fun r1 =>
 zx (α := ((Bool × (Int × (Int × PPt))) × ((Bool × (Int × (Int × PPt))) × (Int × (Int × Bool))))) (fun (y2, y3, y4, y5, y6) =>
 bif y6 then
 bnd (z7 y4 y5) fun r7 =>
 some r7
 else
 bnd (zbn (y2.2.1, y2.2.2.1, y2.2.2.2.1, y2.2.2.2.2) (y3.2.1, y3.2.2.1, y3.2.2.2.1, y3.2.2.2.2)) fun r8 =>
 some (w64 (y4 * r8))) fun j9 =>
 bif !(decide (r0 = r1)) then
 j9 ((a0.1, a0.2.1, a0.2.2.1, a0.2.2.2.1, a0.2.2.2.2), (a1.1, a1.2.1, a1.2.2.1, a1.2.2.2.1, a1.2.2.2.2), r0, r1, true)
 else
 j9 ((a0.1, a0.2.1, a0.2.2.1, a0.2.2.2.1, a0.2.2.2.2), (a1.1, a1.2.1, a1.2.2.1, a1.2.2.2.1, a1.2.2.2.2), r0, r1, decide (r0 = 0))
theorem zo5 (k:Nat) (XL:(Bool×(Int×(Int×PPt)))→Option Int) (z7:Int→Int→Option Int) (zbn:(Int×(Int×PPt))→(Int×(Int×PPt))→Option Int) (a0:(Bool×(Int×(Int×PPt)))) (a1:(Bool×(Int×(Int×PPt)))):zN [⟨177,[.d (.pair .bool (.pair (.int .u64) (.pair (.int .u64) (.pair (.int .u64) (.int .u64)))))],[kI],fun x=>XL x,none⟩,⟨90,[.d kI,.d kI],[kI],fun x=>z7 (x.1) (x.2),none⟩,⟨178,[.d (.pair (.int .u64) (.pair (.int .u64) (.pair (.int .u64) (.int .u64)))),.d (.pair (.int .u64) (.pair (.int .u64) (.pair (.int .u64) (.int .u64))))],[kI],fun x=>zbn (x.1) (x.2),none⟩] tb k Tryz.f166 zjd [.d (.pair .bool (.pair (.int .u64) (.pair (.int .u64) (.pair (.int .u64) (.int .u64))))),.d (.pair .bool (.pair (.int .u64) (.pair (.int .u64) (.pair (.int .u64) (.int .u64)))))] [kI] (a0,a1)=zgE k XL z7 zbn a0 a1:=by kernel_rfl
def zaF (k:Nat) (a0:(Bool×(Int×(Int×PPt)))) (a1:(Bool×(Int×(Int×PPt)))):Option Int:=zgE k (Xt k) (qE k) (Xx k) a0 a1
theorem zlj (k:Nat):zv Tryz.prog 166 [.d (.pair .bool (.pair (.int .u64) (.pair (.int .u64) (.pair (.int .u64) (.int .u64))))),.d (.pair .bool (.pair (.int .u64) (.pair (.int .u64) (.pair (.int .u64) (.int .u64)))))] [kI] (fun x=>zaF k (x.1) (x.2)):=fun x y h=>zh zO mix (zo.cons (ze.of rfl (zjx k)) (zo.cons (ze.of rfl (Jl k)) (zo.cons (ze.of rfl (zjF k)) (zo.nil _)))) Tryz.func166 (N:=k) (an:=zjd) (by kernel_rfl) x y ((zo5 k (Xt k) (qE k) (Xx k) (x.1) (x.2)).trans h)
def zge:Ann:=uLf
def zdn (k : Nat) (JB : Int → Int → Option (Bool × (Int × (Int × PPt)))) (zdw : (Bool × (Int × (Int × PPt))) → (Bool × (Int × (Int × PPt))) → Option Int) (a0 : Int) (a1 : Int) (a2 : Int) (a3 : Int) : Option Int :=
 bnd (JB a0 a1) fun r0 =>
 bnd (JB a2 a3) fun r1 =>
 bnd (zdw (r0.1, r0.2.1, r0.2.2.1, r0.2.2.2.1, r0.2.2.2.2) (r1.1, r1.2.1, r1.2.2.1, r1.2.2.2.1, r1.2.2.2.2)) fun r2 =>
 some r2
theorem zlX (k:Nat) (JB:Int→Int→Option (Bool×(Int×(Int×PPt)))) (zdw:(Bool×(Int×(Int×PPt)))→(Bool×(Int×(Int×PPt)))→Option Int) (a0:Int) (a1:Int) (a2:Int) (a3:Int):zN [⟨165,[.d kI,.d kI],[.pair .bool (.pair (.int .u64) (.pair (.int .u64) (.pair (.int .u64) (.int .u64))))],fun x=>JB (x.1) (x.2),none⟩,⟨166,[.d (.pair .bool (.pair (.int .u64) (.pair (.int .u64) (.pair (.int .u64) (.int .u64))))),.d (.pair .bool (.pair (.int .u64) (.pair (.int .u64) (.pair (.int .u64) (.int .u64)))))],[kI],fun x=>zdw (x.1) (x.2),none⟩] tb k Tryz.f145 zge [.d kI,.d kI,.d kI,.d kI] [kI] (a0,a1,a2,a3)=zdn k JB zdw a0 a1 a2 a3:=by kernel_rfl
def Yb (k:Nat) (a0:Int) (a1:Int) (a2:Int) (a3:Int):Option Int:=zdn k (JG k) (zaF k) a0 a1 a2 a3
theorem zit (k:Nat):zv Tryz.prog 145 [.d kI,.d kI,.d kI,.d kI] [kI] (fun x=>Yb k (x.1) (x.2.1) (x.2.2.1) (x.2.2.2)):=fun x y h=>zh zO mix (zo.cons (ze.of rfl (zgu k)) (zo.cons (ze.of rfl (zlj k)) (zo.nil _))) Tryz.func145 (N:=k) (an:=zge) (by kernel_rfl) x y ((zlX k (JG k) (zaF k) (x.1) (x.2.1) (x.2.2.1) (x.2.2.2)).trans h)
def ze9:Ann:=uLf
def zbw (k : Nat) (zax : (List Int) → Option Bool) (zau : Int → Int → Int → Int → Option Int) (a0 : PPt) (a1 : PPt) (a2 : PPt) : Option Int :=
 bnd (zax [w64 (a1.1 - a0.1), w64 (a2.2 - a0.2), w64 (a1.2 - a0.2), w64 (a2.1 - a0.1)]) fun r0 =>
 bif r0 then
 bif decide ((w64 ((w64 ((w64 (a1.1 - a0.1)) * (w64 (a2.2 - a0.2)))) - (w64 ((w64 (a1.2 - a0.2)) * (w64 (a2.1 - a0.1)))))) > 0) then
 some 1
 else
 bif decide ((w64 ((w64 ((w64 (a1.1 - a0.1)) * (w64 (a2.2 - a0.2)))) - (w64 ((w64 (a1.2 - a0.2)) * (w64 (a2.1 - a0.1)))))) < 0) then
 some (-1)
 else
 some 0
 else
 bnd (zau (w64 (a1.1 - a0.1)) (w64 (a2.2 - a0.2)) (w64 (a1.2 - a0.2)) (w64 (a2.1 - a0.1))) fun r1 =>
 some r1
theorem zkz (k:Nat) (zax:(List Int)→Option Bool) (zau:Int→Int→Int→Int→Option Int) (a0:PPt) (a1:PPt) (a2:PPt):zN [⟨144,[.d (.sl kI)],[.bool],fun x=>zax x,none⟩,⟨145,[.d kI,.d kI,.d kI,.d kI],[kI],fun x=>zau (x.1) (x.2.1) (x.2.2.1) (x.2.2.2),none⟩] tb k Tryz.f109 ze9 [.d kPP,.d kPP,.d kPP] [kI] (a0,a1,a2)=zbw k zax zau a0 a1 a2:=by kernel_rfl
def Kp (k:Nat) (a0:PPt) (a1:PPt) (a2:PPt):Option Int:=zbw k (Ya k) (Yb k) a0 a1 a2
theorem zhF (k:Nat):zv Tryz.prog 109 [.d kPP,.d kPP,.d kPP] [kI] (fun x=>Kp k (x.1) (x.2.1) (x.2.2)):=fun x y h=>zh zO mix (zo.cons (ze.of rfl (zil k)) (zo.cons (ze.of rfl (zit k)) (zo.nil _))) Tryz.func109 (N:=k) (an:=ze9) (by kernel_rfl) x y ((zkz k (Ya k) (Yb k) (x.1) (x.2.1) (x.2.2)).trans h)
def zeB:Ann:=uLf
def zb0 (k : Nat) (zI : LPt → Option Bool) (Xp : PPt → PPt → PPt → Option Int) (a0 : PPt) (a1 : PPt) (a2 : PPt) : Option Int :=
 bnd (zI [(a0.1, a0.2), (a1.1, a1.2), (a2.1, a2.2)]) fun r0 =>
 bif !r0 then
 some 0
 else
 bnd (Xp (a0.1, a0.2) (a1.1, a1.2) (a2.1, a2.2)) fun r1 =>
 some r1
theorem zka (k:Nat) (zI:LPt→Option Bool) (Xp:PPt→PPt→PPt→Option Int) (a0:PPt) (a1:PPt) (a2:PPt):zN [⟨108,[.d kLP],[.bool],fun x=>zI x,none⟩,⟨109,[.d kPP,.d kPP,.d kPP],[kI],fun x=>Xp (x.1) (x.2.1) (x.2.2),none⟩] tb k Tryz.f81 zeB [.d kPP,.d kPP,.d kPP] [kI] (a0,a1,a2)=zb0 k zI Xp a0 a1 a2:=by kernel_rfl
def qK (k:Nat) (a0:PPt) (a1:PPt) (a2:PPt):Option Int:=zb0 k (qu k) (Kp k) a0 a1 a2
theorem Qt (k:Nat):zv Tryz.prog 81 [.d kPP,.d kPP,.d kPP] [kI] (fun x=>qK k (x.1) (x.2.1) (x.2.2)):=fun x y h=>zh zO mix (zo.cons (ze.of rfl (jX k)) (zo.cons (ze.of rfl (zhF k)) (zo.nil _))) Tryz.func81 (N:=k) (an:=zeB) (by kernel_rfl) x y ((zka k (qu k) (Kp k) (x.1) (x.2.1) (x.2.2)).trans h)
def zdG:Ann:=uNn uLf (uNn (.node (some [(6,.d .bool)]) none uLf uLf) uLf)
def QR (k : Nat) (a0 : Int) (a1 : Int) (a2 : Int) : Option Bool :=
 zx (α := Bool) (fun y0 =>
 some y0) fun j1 =>
 bif decide ((mnI a0 a1) ≤ a2) then
 j1 (decide (a2 ≤ (mxI a0 a1)))
 else
 j1 false
theorem zjv (k:Nat) (a0:Int) (a1:Int) (a2:Int):zN [] tb k Tryz.f154 zdG [.d kI,.d kI,.d kI] [.bool] (a0,a1,a2)=QR k a0 a1 a2:=by kernel_rfl
theorem zgR (k:Nat):zv Tryz.prog 154 [.d kI,.d kI,.d kI] [.bool] (fun x=>QR k (x.1) (x.2.1) (x.2.2)):=fun x y h=>zh zO mix (zo.nil _) Tryz.func154 (N:=k) (an:=zdG) (by kernel_rfl) x y ((zjv k (x.1) (x.2.1) (x.2.2)).trans h)
def zkM:Ann:=uNn uLf (uNn (.node (some [(6,.d .bool)]) none uLf uLf) uLf)
def ziJ (k : Nat) (zI : LPt → Option Bool) (zR : PPt → PPt → PPt → Option Int) (JN : Int → Int → Int → Option Bool) (a0 : PPt) (a1 : PPt) (a2 : PPt) : Option Bool :=
 zx (α := Bool) (fun y0 =>
 some y0) fun j1 =>
 bif !((decide (a0.1 = a1.1)) && (decide (a0.2 = a1.2))) then
 bnd (zI [(a0.1, a0.2), (a1.1, a1.2), (a2.1, a2.2)]) fun r2 =>
 bif r2 then
 bnd (zR (a0.1, a0.2) (a1.1, a1.2) (a2.1, a2.2)) fun r3 =>
 bif decide (r3 = 0) then
 bnd (JN a0.1 a1.1 a2.1) fun r4 =>
 bif r4 then
 bnd (JN a0.2 a1.2 a2.2) fun r5 =>
 j1 r5
 else
 j1 false
 else
 j1 false
 else
 j1 false
 else
 j1 false
theorem zqy (k:Nat) (zI:LPt→Option Bool) (zR:PPt→PPt→PPt→Option Int) (JN:Int→Int→Int→Option Bool) (a0:PPt) (a1:PPt) (a2:PPt):zN [⟨108,[.d kLP],[.bool],fun x=>zI x,none⟩,⟨81,[.d kPP,.d kPP,.d kPP],[kI],fun x=>zR (x.1) (x.2.1) (x.2.2),none⟩,⟨154,[.d kI,.d kI,.d kI],[.bool],fun x=>JN (x.1) (x.2.1) (x.2.2),none⟩] tb k Tryz.f119 zkM [.d kPP,.d kPP,.d kPP] [.bool] (a0,a1,a2)=ziJ k zI zR JN a0 a1 a2:=by kernel_rfl
def K3 (k:Nat) (a0:PPt) (a1:PPt) (a2:PPt):Option Bool:=ziJ k (qu k) (qK k) (QR k) a0 a1 a2
theorem zgm (k:Nat):zv Tryz.prog 119 [.d kPP,.d kPP,.d kPP] [.bool] (fun x=>K3 k (x.1) (x.2.1) (x.2.2)):=fun x y h=>zh zO mix (zo.cons (ze.of rfl (jX k)) (zo.cons (ze.of rfl (Qt k)) (zo.cons (ze.of rfl (zgR k)) (zo.nil _)))) Tryz.func119 (N:=k) (an:=zkM) (by kernel_rfl) x y ((zqy k (qu k) (qK k) (QR k) (x.1) (x.2.1) (x.2.2)).trans h)
def zej:Ann:=uNn uLf (uNn (.node (some [(6,.d .bool)]) none uLf uLf) uLf)
def zbQ (k : Nat) (J3 : PPt → PPt → PPt → Option Bool) (a0 : PPt) (a1 : PPt) (a2 : PPt) : Option Bool :=
 zx (α := Bool) (fun y0 =>
 some y0) fun j1 =>
 bnd (J3 (a0.1, a0.2) (a1.1, a1.2) (a2.1, a2.2)) fun r2 =>
 bif r2 then
 bif !((decide (a2.1 = a0.1)) && (decide (a2.2 = a0.2))) then
 j1 (!((decide (a2.1 = a1.1)) && (decide (a2.2 = a1.2))))
 else
 j1 false
 else
 j1 false
theorem zkk (k:Nat) (J3:PPt→PPt→PPt→Option Bool) (a0:PPt) (a1:PPt) (a2:PPt):zN [⟨119,[.d kPP,.d kPP,.d kPP],[.bool],fun x=>J3 (x.1) (x.2.1) (x.2.2),none⟩] tb k Tryz.f84 zej [.d kPP,.d kPP,.d kPP] [.bool] (a0,a1,a2)=zbQ k J3 a0 a1 a2:=by kernel_rfl
def jm (k:Nat) (a0:PPt) (a1:PPt) (a2:PPt):Option Bool:=zbQ k (K3 k) a0 a1 a2
theorem Yw (k:Nat):zv Tryz.prog 84 [.d kPP,.d kPP,.d kPP] [.bool] (fun x=>jm k (x.1) (x.2.1) (x.2.2)):=fun x y h=>zh zO mix (zo.cons (ze.of rfl (zgm k)) (zo.nil _)) Tryz.func84 (N:=k) (an:=zej) (by kernel_rfl) x y ((zkk k (K3 k) (x.1) (x.2.1) (x.2.2)).trans h)
def zg2:Ann:=uNn uLf (uNn (uNn (.node (some [(4,.box [.d kPP]),(5,.box [.d kPP]),(6,.box [.d kPP]),(7,.box [.d kPP]),(30,.d .bool)]) none uLf uLf) uLf) (uNn uLf (uNn uLf (uNn (uNn uLf (uNn (uNn (.node (some [(10,.d kI),(11,.d kI),(81,.d .bool)]) none uLf uLf) (uNn uLf (uNn (.node (some [(10,.d kI),(11,.d kI),(88,.d .bool)]) none uLf uLf) uLf))) uLf)) uLf))))
def zeH (k : Nat) (zI : LPt → Option Bool) (Yd : (List Bool) → Option Int) (qw : PPt → PPt → PPt → Option Bool) (zR : PPt → PPt → PPt → Option Int) (a0 : PPt) (a1 : PPt) (a2 : PPt) (a3 : PPt) : Option PPt :=
 zx (α := (PPt × (PPt × (PPt × (PPt × Bool))))) (fun (y0, y1, y2, y3, y4) =>
 bif y4 then
 some (0, 2)
 else
 bnd (Yd [(decide (y0.1 = y2.1)) && (decide (y0.2 = y2.2)), (decide (y0.1 = y3.1)) && (decide (y0.2 = y3.2)), (decide (y1.1 = y2.1)) && (decide (y1.2 = y2.2)), (decide (y1.1 = y3.1)) && (decide (y1.2 = y3.2))]) fun r5 =>
 bnd (qw (y0.1, y0.2) (y1.1, y1.2) (y2.1, y2.2)) fun r6 =>
 bnd (qw (y0.1, y0.2) (y1.1, y1.2) (y3.1, y3.2)) fun r7 =>
 bnd (qw (y2.1, y2.2) (y3.1, y3.2) (y0.1, y0.2)) fun r8 =>
 bnd (qw (y2.1, y2.2) (y3.1, y3.2) (y1.1, y1.2)) fun r9 =>
 bnd (Yd [r6, r7, r8, r9]) fun r10 =>
 bnd (zR (y0.1, y0.2) (y1.1, y1.2) (y2.1, y2.2)) fun r11 =>
 bnd (zR (y0.1, y0.2) (y1.1, y1.2) (y3.1, y3.2)) fun r12 =>
 bnd (zR (y2.1, y2.2) (y3.1, y3.2) (y0.1, y0.2)) fun r13 =>
 bnd (zR (y2.1, y2.2) (y3.1, y3.2) (y1.1, y1.2)) fun r14 =>
 zx (α := (Int × (Int × Bool))) (fun (y15, y16, y17) =>
 bif y17 then
 some (3, 0)
 else
 zx (α := (Int × (Int × Bool))) (fun (y18, y19, y20) =>
 bif y20 then
 some (4, 0)
 else
 bif decide (y18 = 1) then
 some (1, 0)
 else
 bif decide (y19 = 1) then
 some (2, 0)
 else
 some (0, 0)) fun j21 =>
 bif decide (y15 = 2) then
 j21 (y15, y16, true)
 else
 bif decide (y16 > 1) then
 j21 (y15, y16, true)
 else
 bif decide (y15 = 1) then
 j21 (y15, y16, decide (y16 = 1))
 else
 j21 (y15, y16, false)) fun j22 =>
 bif decide ((w64 (r11 * r12)) < 0) then
 j22 (r5, r10, decide ((w64 (r13 * r14)) < 0))
 else
 j22 (r5, r10, false)) fun j23 =>
 bif (decide (a0.1 = a1.1)) && (decide (a0.2 = a1.2)) then
 j23 ((a0.1, a0.2), (a1.1, a1.2), (a2.1, a2.2), (a3.1, a3.2), true)
 else
 bif (decide (a2.1 = a3.1)) && (decide (a2.2 = a3.2)) then
 j23 ((a0.1, a0.2), (a1.1, a1.2), (a2.1, a2.2), (a3.1, a3.2), true)
 else
 bnd (zI [(a0.1, a0.2), (a1.1, a1.2), (a2.1, a2.2), (a3.1, a3.2)]) fun r24 =>
 j23 ((a0.1, a0.2), (a1.1, a1.2), (a2.1, a2.2), (a3.1, a3.2), !r24)
theorem znL (k:Nat) (zI:LPt→Option Bool) (Yd:(List Bool)→Option Int) (qw:PPt→PPt→PPt→Option Bool) (zR:PPt→PPt→PPt→Option Int) (a0:PPt) (a1:PPt) (a2:PPt) (a3:PPt):zN [⟨108,[.d kLP],[.bool],fun x=>zI x,none⟩,⟨120,[.d (.sl .bool)],[kI],fun x=>Yd x,none⟩,⟨84,[.d kPP,.d kPP,.d kPP],[.bool],fun x=>qw (x.1) (x.2.1) (x.2.2),none⟩,⟨81,[.d kPP,.d kPP,.d kPP],[kI],fun x=>zR (x.1) (x.2.1) (x.2.2),none⟩] tb k Tryz.f85 zg2 [.d kPP,.d kPP,.d kPP,.d kPP] [kI,kI] (a0,a1,a2,a3)=zeH k zI Yd qw zR a0 a1 a2 a3:=by kernel_rfl
def Qr (k:Nat) (a0:PPt) (a1:PPt) (a2:PPt) (a3:PPt):Option PPt:=zeH k (qu k) (J5 k) (jm k) (qK k) a0 a1 a2 a3
theorem zdM (k:Nat):zv Tryz.prog 85 [.d kPP,.d kPP,.d kPP,.d kPP] [kI,kI] (fun x=>Qr k (x.1) (x.2.1) (x.2.2.1) (x.2.2.2)):=fun x y h=>zh zO mix (zo.cons (ze.of rfl (jX k)) (zo.cons (ze.of rfl (zh7 k)) (zo.cons (ze.of rfl (Yw k)) (zo.cons (ze.of rfl (Qt k)) (zo.nil _))))) Tryz.func85 (N:=k) (an:=zg2) (by kernel_rfl) x y ((znL k (qu k) (J5 k) (jm k) (qK k) (x.1) (x.2.1) (x.2.2.1) (x.2.2.2)).trans h)
def zgg:Ann:=uNn uLf (uNn (uNn uLf (uNn (.node none (some [(0,.d (.sl (.pair kPP kPP))),(12,.d (.sl (.pair kPP kPP))),(13,.d kI),(14,.d kI)]) (uNn uLf (uNn uLf (uNn (uNn (uNn uLf (uNn (.node (some [(0,.d (.sl (.pair kPP kPP))),(12,.d (.sl (.pair kPP kPP))),(13,.d kI),(14,.d kI),(29,.d .bool)]) none uLf uLf) uLf)) uLf) uLf))) uLf) uLf)) (uNn (uNn uLf (uNn (.node none (some [(0,.d (.sl (.pair kPP kPP))),(31,.d (.sl (.pair kPP kPP))),(32,.d kI),(33,.d kI)]) (uNn uLf (uNn uLf (uNn (uNn (uNn uLf (uNn uLf (uNn (.node none (some [(0,.d (.sl (.pair kPP kPP))),(7,.d kI),(8,.box [.d (.pair kPP kPP)]),(9,.d kI),(31,.d (.sl (.pair kPP kPP))),(32,.d kI),(33,.d kI)]) uLf uLf) uLf))) uLf) uLf))) uLf) uLf)) uLf))
def zc9 (k : Nat) (zI : LPt → Option Bool) (Qp : PPt → PPt → PPt → PPt → Option PPt) (a0 : (List (PPt × PPt))) : Option (Int × Int × Bool) :=
 zw (α := ((List (PPt × PPt)) × ((List (PPt × PPt)) × PPt))) (fun (x1, x2, x3, x4) next0 =>
 bif decide (x4 < x3) then
 gd (inb x4 x2.length) <|
 zx (α := ((List (PPt × PPt)) × ((List (PPt × PPt)) × (Int × (Int × Bool))))) (fun (y5, y6, y7, y8, y9) =>
 bif y9 then
 some (0, 0, false)
 else
 next0 (y5, y6, y7, w64 (y8 + 1))) fun j10 =>
 bnd (zI [((rdD ((0, 0), 0, 0) x2 x4).1.1, (rdD ((0, 0), 0, 0) x2 x4).1.2), ((rdD ((0, 0), 0, 0) x2 x4).2.1, (rdD ((0, 0), 0, 0) x2 x4).2.2)]) fun r11 =>
 bif !r11 then
 j10 (x1, x2, x3, x4, true)
 else
 j10 (x1, x2, x3, x4, (decide ((rdD ((0, 0), 0, 0) x2 x4).1.1 = (rdD ((0, 0), 0, 0) x2 x4).1.1)) && ((decide ((rdD ((0, 0), 0, 0) x2 x4).1.2 = (rdD ((0, 0), 0, 0) x2 x4).1.2)) && ((decide ((rdD ((0, 0), 0, 0) x2 x4).2.1 = (rdD ((0, 0), 0, 0) x2 x4).1.1)) && (decide ((rdD ((0, 0), 0, 0) x2 x4).2.2 = (rdD ((0, 0), 0, 0) x2 x4).1.2)))))
 else
 zw (α := ((List (PPt × PPt)) × ((List (PPt × PPt)) × PPt))) (fun (x13, x14, x15, x16) next12 =>
 bif decide (x16 < x15) then
 gd (inb x16 x14.length) <|
 zw (α := ((List (PPt × PPt)) × (Int × ((PPt × PPt) × (Int × ((List (PPt × PPt)) × PPt)))))) (fun (x18, x19, x20, x21, x22, x23, x24) next17 =>
 bif decide (x21 < (x18.length : Int)) then
 gd (inb x21 x18.length) <|
 gd (inb x21 x18.length) <|
 bnd (Qp (x20.1.1, x20.1.2) (x20.2.1, x20.2.2) ((rdD ((0, 0), 0, 0) x18 x21).1.1, (rdD ((0, 0), 0, 0) x18 x21).1.2) ((rdD ((0, 0), 0, 0) x18 x21).2.1, (rdD ((0, 0), 0, 0) x18 x21).2.2)) fun r25 =>
 bif decide (r25.1 > 1) then
 some (x19, x21, true)
 else
 next17 (x18, x19, ((x20.1.1, x20.1.2), x20.2.1, x20.2.2), w64 (x21 + 1), x22, x23, x24)
 else
 next12 (x18, x22, x23, w64 (x24 + 1))) k (x13, x16, (((rdD ((0, 0), 0, 0) x14 x16).1.1, (rdD ((0, 0), 0, 0) x14 x16).1.2), (rdD ((0, 0), 0, 0) x14 x16).2.1, (rdD ((0, 0), 0, 0) x14 x16).2.2), w64 (x16 + 1), x14, x15, x16)
 else
 some (0, 0, false)) k (x1, x1, (x1.length : Int), 0)) k (a0, a0, (a0.length : Int), 0)
theorem zl1 (k:Nat) (zI:LPt→Option Bool) (Qp:PPt→PPt→PPt→PPt→Option PPt) (a0:(List (PPt×PPt))):zN [⟨108,[.d kLP],[.bool],fun x=>zI x,none⟩,⟨85,[.d kPP,.d kPP,.d kPP,.d kPP],[kI,kI],fun x=>Qp (x.1) (x.2.1) (x.2.2.1) (x.2.2.2),none⟩] tb k Tryz.f150 zgg [.d (.sl (.pair kPP kPP))] [kI,kI,.bool] a0=zc9 k zI Qp a0:=by kernel_rfl
def J4 (k:Nat) (a0:(List (PPt×PPt))):Option (Int×Int×Bool):=zc9 k (qu k) (Qr k) a0
theorem zix (k:Nat):zv Tryz.prog 150 [.d (.sl (.pair kPP kPP))] [kI,kI,.bool] (fun x=>J4 k x):=fun x y h=>zh zO mix (zo.cons (ze.of rfl (jX k)) (zo.cons (ze.of rfl (zdM k)) (zo.nil _))) Tryz.func150 (N:=k) (an:=zgg) (by kernel_rfl) x y ((zl1 k (qu k) (Qr k) x).trans h)
def ze3:Ann:=uNn uLf (uNn uLf (uNn (uNn uLf (uNn (.node none (some [(1,.box [.d kPl]),(2,.box [.d (.pair kI kPP)]),(3,.row (.pair kPP kPP) 177),(10,.d kLP),(11,.d kI),(12,.d kI)]) uLf uLf) uLf)) uLf))
def zbE (k : Nat) (qH : TPl → Option LPt) (Zz : TPl → PPt → Option (PPt × PPt)) (zab : (List (PPt × PPt)) → Option (Int × Int × Bool)) (a0 : TPl) : Option (Int × PPt) :=
 bnd (qH (a0.1, a0.2.1, a0.2.2)) fun r0 =>
 zw (α := (TPl × ((Int × PPt) × ((List (PPt × PPt)) × (LPt × PPt))))) (fun (x2, x3, x4, x5, x6, x7) next1 =>
 bif decide (x7 < x6) then
 gd (inb x7 x5.length) <|
 bnd (Zz (x2.1, x2.2.1, x2.2.2) ((rdD (0, 0) x5 x7).1, (rdD (0, 0) x5 x7).2)) fun r8 =>
 gd (few (x4.length + 1)) <|
 next1 ((x2.1, x2.2.1, x2.2.2), (x3.1, x3.2.1, x3.2.2), x4 ++ [((r8.1.1, r8.1.2), r8.2.1, r8.2.2)], x5, x6, w64 (x7 + 1))
 else
 bnd (zab x4) fun r9 =>
 bif r9.2.2 then
 some (3, r9.1, r9.2.1)
 else
 some (0, 0, 0)) k ((a0.1, a0.2.1, a0.2.2), (0, 0, 0), [], r0, (r0.length : Int), 0)
theorem zkr (k:Nat) (qH:TPl→Option LPt) (Zz:TPl→PPt→Option (PPt×PPt)) (zab:(List (PPt×PPt))→Option (Int×Int×Bool)) (a0:TPl):zN [⟨148,[.d kPl],[.sl kPP],fun x=>qH x,none⟩,⟨149,[.d kPl,.d kPP],[.pair kPP kPP],fun x=>Zz (x.1) (x.2),none⟩,⟨150,[.d (.sl (.pair kPP kPP))],[kI,kI,.bool],fun x=>zab x,none⟩] tb k Tryz.f113 ze3 [.d kPl] [.pair kI kPP] a0=zbE k qH Zz zab a0:=by kernel_rfl
def KD (k:Nat) (a0:TPl):Option (Int×PPt):=zbE k (qW k) (Ze k) (J4 k) a0
theorem zhL (k:Nat):zv Tryz.prog 113 [.d kPl] [.pair kI kPP] (fun x=>KD k x):=fun x y h=>zh zO mix (zo.cons (ze.of rfl (KN k)) (zo.cons (ze.of rfl (zcM k)) (zo.cons (ze.of rfl (zix k)) (zo.nil _)))) Tryz.func113 (N:=k) (an:=ze3) (by kernel_rfl) x y ((zkr k (qW k) (Ze k) (J4 k) x).trans h)
def zdB:Ann:=uNn uLf (uNn (uNn uLf (uNn (.node none (some [(1,.box [.d kPl]),(2,.box [.d (.pair kI kPP)]),(9,.d kLP),(10,.d kI),(11,.d kI)]) (uNn uLf (uNn uLf (uNn (uNn (uNn uLf (uNn uLf (uNn (.node none (some [(1,.box [.d kPl]),(2,.box [.d (.pair kI kPP)]),(3,.d kI),(4,.box [.d kPP]),(9,.d kLP),(10,.d kI),(11,.d kI),(17,.d kLP),(18,.d kI),(19,.d kI)]) uLf uLf) uLf))) uLf) uLf))) uLf) uLf)) uLf)
def zaL (k : Nat) (qH : TPl → Option LPt) (Zz : TPl → PPt → Option (PPt × PPt)) (qw : PPt → PPt → PPt → Option Bool) (a0 : TPl) : Option (Int × PPt) :=
 zw (α := (TPl × ((Int × PPt) × (LPt × PPt)))) (fun (x1, x2, x3, x4, x5) next0 =>
 bif decide (x5 < x4) then
 gd (inb x5 x3.length) <|
 bnd (qH (x1.1, x1.2.1, x1.2.2)) fun r6 =>
 zw (α := (TPl × ((Int × PPt) × (Int × (PPt × (LPt × (Int × (Int × (LPt × PPt))))))))) (fun (x8, x9, x10, x11, x12, x13, x14, x15, x16, x17) next7 =>
 bif decide (x17 < x16) then
 gd (inb x17 x15.length) <|
 bnd (Zz (x8.1, x8.2.1, x8.2.2) ((rdD (0, 0) x15 x17).1, (rdD (0, 0) x15 x17).2)) fun r18 =>
 bnd (qw (r18.1.1, r18.1.2) (r18.2.1, r18.2.2) (x11.1, x11.2)) fun r19 =>
 bif r19 then
 some (4, x10, x17)
 else
 next7 ((x8.1, x8.2.1, x8.2.2), (x9.1, x9.2.1, x9.2.2), x10, (x11.1, x11.2), x12, x13, x14, x15, x16, w64 (x17 + 1))
 else
 next0 ((x8.1, x8.2.1, x8.2.2), (x9.1, x9.2.1, x9.2.2), x12, x13, w64 (x14 + 1))) k ((x1.1, x1.2.1, x1.2.2), (x2.1, x2.2.1, x2.2.2), x5, ((rdD (0, 0) x3 x5).1, (rdD (0, 0) x3 x5).2), x3, x4, x5, r6, (r6.length : Int), 0)
 else
 some (0, 0, 0)) k ((a0.1, a0.2.1, a0.2.2), (0, 0, 0), a0.1, (a0.1.length : Int), 0)
theorem zjC (k:Nat) (qH:TPl→Option LPt) (Zz:TPl→PPt→Option (PPt×PPt)) (qw:PPt→PPt→PPt→Option Bool) (a0:TPl):zN [⟨148,[.d kPl],[.sl kPP],fun x=>qH x,none⟩,⟨149,[.d kPl,.d kPP],[.pair kPP kPP],fun x=>Zz (x.1) (x.2),none⟩,⟨84,[.d kPP,.d kPP,.d kPP],[.bool],fun x=>qw (x.1) (x.2.1) (x.2.2),none⟩] tb k Tryz.f114 zdB [.d kPl] [.pair kI kPP] a0=zaL k qH Zz qw a0:=by kernel_rfl
def JQ (k:Nat) (a0:TPl):Option (Int×PPt):=zaL k (qW k) (Ze k) (jm k) a0
theorem zgN (k:Nat):zv Tryz.prog 114 [.d kPl] [.pair kI kPP] (fun x=>JQ k x):=fun x y h=>zh zO mix (zo.cons (ze.of rfl (KN k)) (zo.cons (ze.of rfl (zcM k)) (zo.cons (ze.of rfl (Yw k)) (zo.nil _)))) Tryz.func114 (N:=k) (an:=zdB) (by kernel_rfl) x y ((zjC k (qW k) (Ze k) (jm k) x).trans h)
def zcq:Ann:=uNn uLf (uNn (uNn (.node (some [(0,.d kI),(1,.d kLP),(14,.d .bool)]) none uLf uLf) uLf) (uNn uLf (uNn (uNn uLf (uNn (.node none (some [(0,.d kI),(6,.row kI 3),(17,.d kLP),(18,.d kI),(19,.d kI)]) (uNn uLf (uNn uLf (uNn (uNn (uNn uLf (uNn (uNn (.node (some [(0,.d kI),(6,.row kI 3),(8,.box [.d kPP]),(17,.d kLP),(18,.d kI),(19,.d kI),(49,.d .bool)]) none uLf uLf) uLf) uLf)) uLf) uLf))) uLf) uLf)) uLf)))
def jV (k : Nat) (a0 : Int) (a1 : LPt) : Option ((List Int) × Int) :=
 zx (α := (Int × (LPt × Bool))) (fun (y0, y1, y2) =>
 bif y2 then
 some ([], 2)
 else
 gd (decide (0 ≤ y0)) <|
 gd (zfY y0) <|
 zw (α := (Int × ((List Int) × (LPt × PPt)))) (fun (x4, x5, x6, x7, x8) next3 =>
 bif decide (x8 < x7) then
 gd (inb x8 x6.length) <|
 zx (α := (Int × ((List Int) × (PPt × (LPt × (Int × (Int × Bool))))))) (fun (y9, y10, y11, y12, y13, y14, y15) =>
 bif y15 then
 some ([], 2)
 else
 gd (inb y11.1 y10.length) <|
 gd (inb y11.1 y10.length) <|
 gd (inb y11.2 y10.length) <|
 gd (inb y11.2 y10.length) <|
 next3 (y9, stL (stL y10 y11.1 (w64 ((rdD 0 y10 y11.1) + 1))) y11.2 (w64 ((rdD 0 (stL y10 y11.1 (w64 ((rdD 0 y10 y11.1) + 1))) y11.2) + 1)), y12, y13, w64 (y14 + 1))) fun j16 =>
 bif decide ((rdD (0, 0) x6 x8).1 < 0) then
 j16 (x4, x5, ((rdD (0, 0) x6 x8).1, (rdD (0, 0) x6 x8).2), x6, x7, x8, true)
 else
 bif decide ((rdD (0, 0) x6 x8).1 ≥ x4) then
 j16 (x4, x5, ((rdD (0, 0) x6 x8).1, (rdD (0, 0) x6 x8).2), x6, x7, x8, true)
 else
 bif decide ((rdD (0, 0) x6 x8).2 < 0) then
 j16 (x4, x5, ((rdD (0, 0) x6 x8).1, (rdD (0, 0) x6 x8).2), x6, x7, x8, true)
 else
 bif decide ((rdD (0, 0) x6 x8).2 ≥ x4) then
 j16 (x4, x5, ((rdD (0, 0) x6 x8).1, (rdD (0, 0) x6 x8).2), x6, x7, x8, true)
 else
 j16 (x4, x5, ((rdD (0, 0) x6 x8).1, (rdD (0, 0) x6 x8).2), x6, x7, x8, decide ((rdD (0, 0) x6 x8).1 = (rdD (0, 0) x6 x8).2))
 else
 some (x5, 0)) k (y0, rpL y0 0, y1, (y1.length : Int), 0)) fun j17 =>
 bif decide (a0 < 0) then
 j17 (a0, a1, true)
 else
 j17 (a0, a1, decide (a0 > 1048576))
theorem zif (k:Nat) (a0:Int) (a1:LPt):zN [] tb k Tryz.f152 zcq [.d kI,.d kLP] [.sl kI,kI] (a0,a1)=jV k a0 a1:=by kernel_rfl
theorem X8 (k:Nat):zv Tryz.prog 152 [.d kI,.d kLP] [.sl kI,kI] (fun x=>jV k (x.1) (x.2)):=fun x y h=>zh zO mix (zo.nil _) Tryz.func152 (N:=k) (an:=zcq) (by kernel_rfl) x y ((zif k (x.1) (x.2)).trans h)
def zeF:Ann:=uNn uLf (uNn uLf (uNn (uNn uLf (uNn (.node none (some [(3,.mp kPP .bool),(7,.d kLP),(8,.d kI),(9,.d kI)]) uLf uLf) uLf)) uLf))
def Jg (k : Nat) (a0 : LPt) : Option Int :=
 zw (α := ((List (PPt × Bool)) × (LPt × PPt))) (fun (x1, x2, x3, x4) next0 =>
 bif decide (x4 < x3) then
 gd (inb x4 x2.length) <|
 bif toT Bool (lkM (.pair (.int .i64) (.int .i64)) .bool x1 (mnI (rdD (0, 0) x2 x4).1 (rdD (0, 0) x2 x4).2, mxI (rdD (0, 0) x2 x4).1 (rdD (0, 0) x2 x4).2)) then
 some x4
 else
 gd (!(hsM (.pair (.int .i64) (.int .i64)) .bool x1 (mnI (rdD (0, 0) x2 x4).1 (rdD (0, 0) x2 x4).2, mxI (rdD (0, 0) x2 x4).1 (rdD (0, 0) x2 x4).2))) <|
 next0 (adM (.pair (.int .i64) (.int .i64)) .bool x1 (mnI (rdD (0, 0) x2 x4).1 (rdD (0, 0) x2 x4).2, mxI (rdD (0, 0) x2 x4).1 (rdD (0, 0) x2 x4).2) true, x2, x3, w64 (x4 + 1))
 else
 some (-1)) k ([], a0, (a0.length : Int), 0)
theorem zlt (k:Nat) (a0:LPt):zN [] tb k Tryz.f168 zeF [.d kLP] [kI] a0=Jg k a0:=by kernel_rfl
theorem zhU (k:Nat):zv Tryz.prog 168 [.d kLP] [kI] (fun x=>Jg k x):=fun x y h=>zh zO mix (zo.nil _) Tryz.func168 (N:=k) (an:=zeF) (by kernel_rfl) x y ((zlt k x).trans h)
def zb7:Ann:=uNn uLf (uNn (.node (some [(2,.d .bool)]) none uLf uLf) uLf)
def Z5 (k : Nat) (a0 : Int) : Option Bool :=
 zx (α := Bool) (fun y0 =>
 some y0) fun j1 =>
 bif !(decide (a0 = 0)) then
 j1 (!(decide (a0 = 2)))
 else
 j1 false
theorem ziC (k:Nat) (a0:Int):zN [] tb k Tryz.f170 zb7 [.d kI] [.bool] a0=Z5 k a0:=by kernel_rfl
theorem zfW (k:Nat):zv Tryz.prog 170 [.d kI] [.bool] (fun x=>Z5 k x):=fun x y h=>zh zO mix (zo.nil _) Tryz.func170 (N:=k) (an:=zb7) (by kernel_rfl) x y ((ziC k x).trans h)
def Jp:Ann:=uNn uLf (uNn (uNn uLf (uNn (.node none (some [(0,.d (.sl kI)),(1,.fn 170 [] []),(7,.d kI),(8,.d kI)]) uLf uLf) uLf)) uLf)
def ZS (k : Nat) (KK : Int → Option Bool) (a0 : (List Int)) (a1 : (Unit × Unit)) : Option Int :=
 zw (α := ((List Int) × ((Unit × Unit) × PPt))) (fun (x1, x2, x3, x4) next0 =>
 bif decide (x4 < x3) then
 gd (inb x4 x1.length) <|
 bnd (KK (rdD 0 x1 x4)) fun r5 =>
 bif r5 then
 some x4
 else
 next0 (x1, ((), ()), x3, w64 (x4 + 1))
 else
 some (-1)) k (a0, ((), ()), (a0.length : Int), 0)
theorem zam (k:Nat) (KK:Int→Option Bool) (a0:(List Int)) (a1:(Unit×Unit)):zN [⟨170,[.d kI],[.bool],fun x=>KK x,none⟩] tb k Tryz.f169 Jp [.d (.sl kI),.fn 170 [] []] [kI] (a0,a1)=ZS k KK a0 a1:=by kernel_rfl
def q9 (k:Nat) (a0:(List Int)) (a1:(Unit×Unit)):Option Int:=ZS k (Z5 k) a0 a1
theorem Y4 (k:Nat):zv Tryz.prog 169 [.d (.sl kI),.fn 170 [] []] [kI] (fun x=>q9 k (x.1) (x.2)):=fun x y h=>zh zO mix (zo.cons (ze.of rfl (zfW k)) (zo.nil _)) Tryz.func169 (N:=k) (an:=Jp) (by kernel_rfl) x y ((zam k (Z5 k) (x.1) (x.2)).trans h)
def X7:Ann:=uLf
def Zb (k : Nat) (a0 : PPt) (a1 : Int) : Option Int :=
 bif decide (a0.1 = a1) then
 some a0.2
 else
 some a0.1
theorem zfX (k:Nat) (a0:PPt) (a1:Int):zN [] tb k Tryz.f172 X7 [.d kPP,.d kI] [kI] (a0,a1)=Zb k a0 a1:=by kernel_rfl
theorem zdv (k:Nat):zv Tryz.prog 172 [.d kPP,.d kI] [kI] (fun x=>Zb k (x.1) (x.2)):=fun x y h=>zh zO mix (zo.nil _) Tryz.func172 (N:=k) (an:=X7) (by kernel_rfl) x y ((zfX k (x.1) (x.2)).trans h)
def ze6:Ann:=uNn uLf (uNn uLf (uNn uLf (uNn uLf (uNn uLf (uNn uLf (uNn (uNn uLf (uNn (.node none (some [(0,.d kI),(1,.d kLP),(7,.d (.sl kI)),(11,.row kPP 205),(45,.d kI),(46,.d kI)]) uLf uLf) uLf)) (uNn (uNn uLf (uNn (.node none (some [(0,.d kI),(7,.d (.sl kI)),(11,.row kPP 205),(54,.d kLP),(55,.d kI),(56,.d kI)]) (uNn uLf (uNn uLf (uNn (uNn (uNn uLf (uNn (.node (some [(0,.d kI),(7,.d (.sl kI)),(11,.row kPP 205),(14,.box [.d kPP]),(54,.d kLP),(55,.d kI),(56,.d kI)]) none uLf uLf) (.node (some [(0,.d kI),(7,.d (.sl kI)),(11,.row kPP 205),(54,.d kLP),(55,.d kI),(56,.d kI)]) none uLf uLf))) uLf) uLf))) uLf) uLf)) (uNn uLf (uNn uLf (uNn (uNn uLf (uNn (.node none (some [(7,.d (.sl kI)),(11,.row kPP 205),(15,.row .bool 4),(16,.row (.sl kI) 49),(78,.d kI),(79,.d kI)]) (uNn uLf (uNn uLf (uNn (.node (some [(7,.d (.sl kI)),(11,.row kPP 205),(15,.row .bool 4),(16,.row (.sl kI) 49),(78,.d kI),(79,.d kI)]) none (uNn uLf (uNn (uNn (.node (some [(7,.d (.sl kI)),(11,.row kPP 205),(15,.row .bool 4),(16,.row (.sl kI) 49),(17,.d kI),(78,.d kI),(79,.d kI),(92,.d .bool)]) none uLf uLf) uLf) (uNn uLf (uNn uLf (uNn (uNn (.node none (some [(7,.d (.sl kI)),(11,.row kPP 205),(15,.row .bool 4),(16,.row (.sl kI) 49),(17,.d kI),(18,.row kI 3),(19,.d kI),(20,.d kI),(78,.d kI),(79,.d kI)]) uLf uLf) uLf) (uNn (uNn uLf (uNn (.node none (some [(7,.d (.sl kI)),(11,.row kPP 205),(15,.row .bool 4),(16,.row (.sl kI) 49),(18,.d (.sl kI)),(78,.d kI),(79,.d kI),(121,.d (.sl kI)),(122,.d kI),(123,.d kI)]) uLf uLf) uLf)) uLf)))))) uLf) uLf))) uLf) uLf)) uLf))))))))))
def zbB (k : Nat) (jp : Int → LPt → Option ((List Int) × Int)) (Xi : LPt → Option Int) (jH : (List Int) → (Unit × Unit) → Option Int) (Q2 : PPt → Int → Option Int) (a0 : Int) (a1 : LPt) : Option ((List (List Int)) × Int × Int) :=
 bnd (jp a0 a1) fun r0 =>
 bif !(decide (r0.2 = 0)) then
 some ([], 0, r0.2)
 else
 bnd (Xi a1) fun r1 =>
 bif decide (r1 ≥ 0) then
 some ([], r1, 80)
 else
 bnd (jH r0.1 ((), ())) fun r2 =>
 bif decide (r2 ≥ 0) then
 some ([], r2, 81)
 else
 gd (decide (0 ≤ a0)) <|
 gd (zfY a0) <|
 zw (α := (Int × (LPt × ((List Int) × (LPt × PPt))))) (fun (x4, x5, x6, x7, x8, x9) next3 =>
 bif decide (x9 < x8) then
 gd (inb x9 x7.length) <|
 next3 (x4, x5, x6, stL x7 x9 ((-1), (-1)), x8, w64 (x9 + 1))
 else
 zw (α := (Int × ((List Int) × (LPt × (LPt × PPt))))) (fun (x11, x12, x13, x14, x15, x16) next10 =>
 bif decide (x16 < x15) then
 gd (inb x16 x14.length) <|
 zx (α := (Int × ((List Int) × (LPt × (PPt × (LPt × PPt)))))) (fun (y17, y18, y19, y20, y21, y22, y23) =>
 zx (α := (Int × ((List Int) × (LPt × (LPt × PPt))))) (fun (y24, y25, y26, y27, y28, y29) =>
 next10 (y24, y25, y26, y27, y28, w64 (y29 + 1))) fun j30 =>
 gd (inb y20.2 y19.length) <|
 bif decide ((rdD (0, 0) y19 y20.2).1 < 0) then
 j30 (y17, y18, stL y19 y20.2 (y20.1, (rdD (0, 0) y19 y20.2).2), y21, y22, y23)
 else
 j30 (y17, y18, stL y19 y20.2 ((rdD (0, 0) y19 y20.2).1, y20.1), y21, y22, y23)) fun j31 =>
 gd (inb (rdD (0, 0) x14 x16).1 x13.length) <|
 bif decide ((rdD (0, 0) x13 (rdD (0, 0) x14 x16).1).1 < 0) then
 j31 (x11, x12, stL x13 (rdD (0, 0) x14 x16).1 ((rdD (0, 0) x14 x16).2, (rdD (0, 0) x13 (rdD (0, 0) x14 x16).1).2), ((rdD (0, 0) x14 x16).1, (rdD (0, 0) x14 x16).2), x14, x15, x16)
 else
 j31 (x11, x12, stL x13 (rdD (0, 0) x14 x16).1 ((rdD (0, 0) x13 (rdD (0, 0) x14 x16).1).1, (rdD (0, 0) x14 x16).2), ((rdD (0, 0) x14 x16).1, (rdD (0, 0) x14 x16).2), x14, x15, x16)
 else
 gd (decide (0 ≤ x11)) <|
 gd (zfY x11) <|
 zw (α := ((List Int) × (LPt × ((List Bool) × ((List (List Int)) × PPt))))) (fun (x33, x34, x35, x36, x37, x38) next32 =>
 bif decide (x38 < x37) then
 zx (α := ((List Int) × (LPt × ((List Bool) × ((List (List Int)) × PPt))))) (fun (y39, y40, y41, y42, y43, y44) =>
 next32 (y39, y40, y41, y42, y43, w64 (y44 + 1))) fun j45 =>
 zx (α := ((List Int) × (LPt × ((List Bool) × ((List (List Int)) × (Int × (Int × (Int × Bool)))))))) (fun (y46, y47, y48, y49, y50, y51, y52, y53) =>
 bif y53 then
 j45 (y46, y47, y48, y49, y51, y52)
 else
 gd (inb y50 y47.length) <|
 gd (inb y50 y47.length) <|
 zw (α := ((List Int) × (LPt × ((List Bool) × ((List (List Int)) × (Int × ((List Int) × (Int × (Int × PPt))))))))) (fun (x55, x56, x57, x58, x59, x60, x61, x62, x63, x64) next54 =>
 bif !(decide (x62 = x59)) then
 gd (few (x60.length + 1)) <|
 gd (inb x62 x56.length) <|
 bnd (Q2 ((rdD (0, 0) x56 x62).1, (rdD (0, 0) x56 x62).2) x61) fun r65 =>
 next54 (x55, x56, x57, x58, x59, x60 ++ [x62], x62, r65, x63, x64)
 else
 zw (α := ((List Int) × (LPt × ((List Bool) × ((List (List Int)) × ((List Int) × (Int × (Int × ((List Int) × PPt))))))))) (fun (x67, x68, x69, x70, x71, x72, x73, x74, x75, x76) next66 =>
 bif decide (x76 < x75) then
 gd (inb x76 x74.length) <|
 gd (inb (rdD 0 x74 x76) x69.length) <|
 next66 (x67, x68, stL x69 (rdD 0 x74 x76) true, x70, x71, x72, x73, x74, x75, w64 (x76 + 1))
 else
 gd (few (x70.length + 1)) <|
 j45 (x67, x68, x69, x70 ++ [x71], x72, x73)) k (x55, x56, x57, x58, x60, x63, x64, x60, (x60.length : Int), 0)) k (y46, y47, y48, y49, y50, [y50], y50, mnI (rdD (0, 0) y47 y50).1 (rdD (0, 0) y47 y50).2, y51, y52)) fun j77 =>
 gd (inb x38 x33.length) <|
 bif decide ((rdD 0 x33 x38) = 0) then
 j77 (x33, x34, x35, x36, x38, x37, x38, true)
 else
 gd (inb x38 x35.length) <|
 j77 (x33, x34, x35, x36, x38, x37, x38, rdD false x35 x38)
 else
 some (x36, 0, 0)) k (x12, x13, rpL x11 false, [], (x13.length : Int), 0)) k (x4, x6, x7, x5, (x5.length : Int), 0)) k (a0, a1, r0.1, rpL a0 (0, 0), ((rpL a0 (0, 0) : List PPt).length : Int), 0)
theorem zk9 (k:Nat) (jp:Int→LPt→Option ((List Int)×Int)) (Xi:LPt→Option Int) (jH:(List Int)→(Unit×Unit)→Option Int) (Q2:PPt→Int→Option Int) (a0:Int) (a1:LPt):zN [⟨171,[],[],fun _=>none,some (.code tb Tryz.f171)⟩,⟨152,[.d kI,.d kLP],[.sl kI,kI],fun x=>jp (x.1) (x.2),none⟩,⟨168,[.d kLP],[kI],fun x=>Xi x,none⟩,⟨169,[.d (.sl kI),.fn 170 [] []],[kI],fun x=>jH (x.1) (x.2),none⟩,⟨172,[.d kPP,.d kI],[kI],fun x=>Q2 (x.1) (x.2),none⟩] tb k Tryz.f151 ze6 [.d kI,.d kLP] [.sl (.sl kI),kI,kI] (a0,a1)=zbB k jp Xi jH Q2 a0 a1:=by kernel_rfl
def KB (k:Nat) (a0:Int) (a1:LPt):Option ((List (List Int))×Int×Int):=zbB k (jV k) (Jg k) (q9 k) (Zb k) a0 a1
theorem zh1 (k:Nat):zv Tryz.prog 151 [.d kI,.d kLP] [.sl (.sl kI),kI,kI] (fun x=>KB k (x.1) (x.2)):=fun x y h=>zh zO mix (zo.cons (ze.go zO mix Tryz.func171 (by kernel_rfl)) (zo.cons (ze.of rfl (X8 k)) (zo.cons (ze.of rfl (zhU k)) (zo.cons (ze.of rfl (Y4 k)) (zo.cons (ze.of rfl (zdv k)) (zo.nil _)))))) Tryz.func151 (N:=k) (an:=ze6) (by kernel_rfl) x y ((zk9 k (jV k) (Jg k) (q9 k) (Zb k) (x.1) (x.2)).trans h)
def zgj:Ann:=uLf
def zdr (k : Nat) (Xm : Int → LPt → Option ((List (List Int)) × Int × Int)) (a0 : TPl) : Option (Int × PPt) :=
 bnd (Xm (a0.1.length : Int) a0.2.1) fun r0 =>
 bif !(decide (r0.2.2 = 0)) then
 some (5, r0.2.1, 0)
 else
 bif decide ((a0.2.1.length : Int) = 0) then
 some (6, 0, 0)
 else
 some (0, 0, 0)
theorem zlT (k:Nat) (Xm:Int→LPt→Option ((List (List Int))×Int×Int)) (a0:TPl):zN [⟨151,[.d kI,.d kLP],[.sl (.sl kI),kI,kI],fun x=>Xm (x.1) (x.2),none⟩] tb k Tryz.f115 zgj [.d kPl] [.pair kI kPP] a0=zdr k Xm a0:=by kernel_rfl
def K9 (k:Nat) (a0:TPl):Option (Int×PPt):=zdr k (KB k) a0
theorem zim (k:Nat):zv Tryz.prog 115 [.d kPl] [.pair kI kPP] (fun x=>K9 k x):=fun x y h=>zh zO mix (zo.cons (ze.of rfl (zh1 k)) (zo.nil _)) Tryz.func115 (N:=k) (an:=zgj) (by kernel_rfl) x y ((zlT k (KB k) x).trans h)
def zbk:Ann:=uLf
def QQ (k : Nat) (a0 : Int) (a1 : PPt) : Option PPt :=
 some (w64 (a0 * a1.1), w64 (a0 * a1.2))
theorem zhY (k:Nat) (a0:Int) (a1:PPt):zN [] tb k Tryz.f133 zbk [.d kI,.d kPP] [.pair kI kI] (a0,a1)=QQ k a0 a1:=by kernel_rfl
theorem zek (k:Nat):zv Tryz.prog 133 [.d kI,.d kPP] [.pair kI kI] (fun x=>QQ k (x.1) (x.2)):=fun x y h=>zh zO mix (zo.nil _) Tryz.func133 (N:=k) (an:=zbk) (by kernel_rfl) x y ((zhY k (x.1) (x.2)).trans h)
def ze5:Ann:=uNn uLf (uNn uLf (uNn (uNn uLf (uNn (.node none (some [(0,.d kLP),(2,.fn 133 [(.d kI)] []),(8,.row (.pair kPP kPP) 177),(13,.d kLP),(14,.d kI),(15,.d kI)]) (uNn uLf (uNn uLf (uNn (uNn (uNn uLf (uNn (uNn (.node (some [(0,.d kLP),(2,.fn 133 [(.d kI)] []),(8,.row (.pair kPP kPP) 177),(10,.box [.d kPP]),(13,.d kLP),(14,.d kI),(15,.d kI),(68,.d .bool)]) none uLf uLf) uLf) uLf)) uLf) uLf))) uLf) uLf)) uLf))
def zbL (k : Nat) (zI : LPt → Option Bool) (QV : Int → PPt → Option PPt) (a0 : LPt) (a1 : LPt) (a2 : (Int × Unit)) : Option ((List (PPt × PPt)) × Bool) :=
 zw (α := (LPt × ((Int × Unit) × ((List (PPt × PPt)) × (LPt × PPt))))) (fun (x1, x2, x3, x4, x5, x6) next0 =>
 bif decide (x6 < x5) then
 gd (inb x6 x4.length) <|
 zx (α := (LPt × ((Int × Unit) × ((List (PPt × PPt)) × (PPt × (LPt × (Int × (Int × Bool)))))))) (fun (y7, y8, y9, y10, y11, y12, y13, y14) =>
 bif y14 then
 some ([], false)
 else
 gd (inb y10.1 y7.length) <|
 bnd (QV y8.1 ((rdD (0, 0) y7 y10.1).1, (rdD (0, 0) y7 y10.1).2)) fun r15 =>
 gd (inb y10.2 y7.length) <|
 bnd (QV y8.1 ((rdD (0, 0) y7 y10.2).1, (rdD (0, 0) y7 y10.2).2)) fun r16 =>
 bnd (zI [(r15.1, r15.2), (r16.1, r16.2)]) fun r17 =>
 bif !r17 then
 some ([], false)
 else
 gd (few (y9.length + 1)) <|
 next0 (y7, (y8.1, ()), y9 ++ [((r15.1, r15.2), r16.1, r16.2)], y11, y12, w64 (y13 + 1))) fun j18 =>
 bif decide ((rdD (0, 0) x4 x6).1 < 0) then
 j18 (x1, (x2.1, ()), x3, ((rdD (0, 0) x4 x6).1, (rdD (0, 0) x4 x6).2), x4, x5, x6, true)
 else
 bif decide ((rdD (0, 0) x4 x6).1 ≥ (x1.length : Int)) then
 j18 (x1, (x2.1, ()), x3, ((rdD (0, 0) x4 x6).1, (rdD (0, 0) x4 x6).2), x4, x5, x6, true)
 else
 bif decide ((rdD (0, 0) x4 x6).2 < 0) then
 j18 (x1, (x2.1, ()), x3, ((rdD (0, 0) x4 x6).1, (rdD (0, 0) x4 x6).2), x4, x5, x6, true)
 else
 bif decide ((rdD (0, 0) x4 x6).2 ≥ (x1.length : Int)) then
 j18 (x1, (x2.1, ()), x3, ((rdD (0, 0) x4 x6).1, (rdD (0, 0) x4 x6).2), x4, x5, x6, true)
 else
 gd (inb (rdD (0, 0) x4 x6).1 x1.length) <|
 gd (inb (rdD (0, 0) x4 x6).2 x1.length) <|
 bif (decide ((rdD (0, 0) x1 (rdD (0, 0) x4 x6).1).1 = (rdD (0, 0) x1 (rdD (0, 0) x4 x6).2).1)) && (decide ((rdD (0, 0) x1 (rdD (0, 0) x4 x6).1).2 = (rdD (0, 0) x1 (rdD (0, 0) x4 x6).2).2)) then
 j18 (x1, (x2.1, ()), x3, ((rdD (0, 0) x4 x6).1, (rdD (0, 0) x4 x6).2), x4, x5, x6, true)
 else
 gd (inb (rdD (0, 0) x4 x6).1 x1.length) <|
 gd (inb (rdD (0, 0) x4 x6).2 x1.length) <|
 bnd (zI [((rdD (0, 0) x1 (rdD (0, 0) x4 x6).1).1, (rdD (0, 0) x1 (rdD (0, 0) x4 x6).1).2), ((rdD (0, 0) x1 (rdD (0, 0) x4 x6).2).1, (rdD (0, 0) x1 (rdD (0, 0) x4 x6).2).2)]) fun r19 =>
 j18 (x1, (x2.1, ()), x3, ((rdD (0, 0) x4 x6).1, (rdD (0, 0) x4 x6).2), x4, x5, x6, !r19)
 else
 some (x3, true)) k (a0, (a2.1, ()), [], a1, (a1.length : Int), 0)
theorem zkA (k:Nat) (zI:LPt→Option Bool) (QV:Int→PPt→Option PPt) (a0:LPt) (a1:LPt) (a2:(Int×Unit)):zN [⟨108,[.d kLP],[.bool],fun x=>zI x,none⟩,⟨133,[.d kI,.d kPP],[.pair kI kI],fun x=>QV (x.1) (x.2),none⟩] tb k Tryz.f132 ze5 [.d kLP,.d kLP,.fn 133 [(.d kI)] []] [.sl (.pair kPP kPP),.bool] (a0,a1,a2)=zbL k zI QV a0 a1 a2:=by kernel_rfl
def KG (k:Nat) (a0:LPt) (a1:LPt) (a2:(Int×Unit)):Option ((List (PPt×PPt))×Bool):=zbL k (qu k) (QQ k) a0 a1 a2
theorem zhO (k:Nat):zv Tryz.prog 132 [.d kLP,.d kLP,.fn 133 [(.d kI)] []] [.sl (.pair kPP kPP),.bool] (fun x=>KG k (x.1) (x.2.1) (x.2.2)):=fun x y h=>zh zO mix (zo.cons (ze.of rfl (jX k)) (zo.cons (ze.of rfl (zek k)) (zo.nil _))) Tryz.func132 (N:=k) (an:=ze5) (by kernel_rfl) x y ((zkA k (qu k) (QQ k) (x.1) (x.2.1) (x.2.2)).trans h)
def zdK:Ann:=uNn uLf (uNn (uNn uLf (.node (some [(3,.box [.d kPP]),(4,.box [.d kPP]),(5,.box [.d kPP])]) none uLf uLf)) (uNn (.node (some [(6,.d .bool)]) none uLf uLf) uLf))
def zaV (k : Nat) (zR : PPt → PPt → PPt → Option Int) (a0 : PPt) (a1 : PPt) (a2 : PPt) : Option Bool :=
 zx (α := (PPt × (PPt × PPt))) (fun (y0, y1, y2, y3) =>
 zx (α := Bool) (fun y4 =>
 some y4) fun j5 =>
 bif decide (y0.2 ≤ y3) then
 bif decide (y3 < y1.2) then
 bnd (zR (y0.1, y0.2) (y1.1, y1.2) (y2, y3)) fun r6 =>
 j5 (decide (r6 > 0))
 else
 j5 false
 else
 j5 false) fun j7 =>
 bif decide (a0.2 > a1.2) then
 j7 ((a1.1, a1.2), (a0.1, a0.2), a2.1, a2.2)
 else
 j7 ((a0.1, a0.2), (a1.1, a1.2), a2.1, a2.2)
theorem zjD (k:Nat) (zR:PPt→PPt→PPt→Option Int) (a0:PPt) (a1:PPt) (a2:PPt):zN [⟨81,[.d kPP,.d kPP,.d kPP],[kI],fun x=>zR (x.1) (x.2.1) (x.2.2),none⟩] tb k Tryz.f160 zdK [.d kPP,.d kPP,.d kPP] [.bool] (a0,a1,a2)=zaV k zR a0 a1 a2:=by kernel_rfl
def JH (k:Nat) (a0:PPt) (a1:PPt) (a2:PPt):Option Bool:=zaV k (qK k) a0 a1 a2
theorem zgY (k:Nat):zv Tryz.prog 160 [.d kPP,.d kPP,.d kPP] [.bool] (fun x=>JH k (x.1) (x.2.1) (x.2.2)):=fun x y h=>zh zO mix (zo.cons (ze.of rfl (Qt k)) (zo.nil _)) Tryz.func160 (N:=k) (an:=zdK) (by kernel_rfl) x y ((zjD k (qK k) (x.1) (x.2.1) (x.2.2)).trans h)
def zdF:Ann:=uNn uLf (uNn uLf (uNn (uNn uLf (uNn (.node none (some [(3,.box [.d kPP]),(5,.d kI),(8,.d (.sl (.pair kPP kPP))),(9,.d kI),(10,.d kI)]) (uNn uLf (uNn uLf (uNn (uNn (uNn uLf (uNn (uNn uLf (uNn uLf (uNn uLf (.node (some [(3,.box [.d kPP]),(5,.d kI),(8,.d (.sl (.pair kPP kPP))),(9,.d kI),(10,.d kI)]) none uLf uLf)))) uLf)) uLf) uLf))) uLf) uLf)) uLf))
def zaJ (k : Nat) (J3 : PPt → PPt → PPt → Option Bool) (Yk : PPt → PPt → PPt → Option Bool) (a0 : (List (PPt × PPt))) (a1 : PPt) : Option Int :=
 zw (α := (PPt × (Int × ((List (PPt × PPt)) × PPt)))) (fun (x1, x2, x3, x4, x5) next0 =>
 bif decide (x5 < x4) then
 gd (inb x5 x3.length) <|
 bnd (J3 ((rdD ((0, 0), 0, 0) x3 x5).1.1, (rdD ((0, 0), 0, 0) x3 x5).1.2) ((rdD ((0, 0), 0, 0) x3 x5).2.1, (rdD ((0, 0), 0, 0) x3 x5).2.2) (x1.1, x1.2)) fun r6 =>
 bif r6 then
 some 0
 else
 bnd (Yk ((rdD ((0, 0), 0, 0) x3 x5).1.1, (rdD ((0, 0), 0, 0) x3 x5).1.2) ((rdD ((0, 0), 0, 0) x3 x5).2.1, (rdD ((0, 0), 0, 0) x3 x5).2.2) (x1.1, x1.2)) fun r7 =>
 zx (α := (PPt × (Int × ((List (PPt × PPt)) × PPt)))) (fun (y8, y9, y10, y11, y12) =>
 next0 ((y8.1, y8.2), y9, y10, y11, w64 (y12 + 1))) fun j13 =>
 bif r7 then
 j13 ((x1.1, x1.2), w64 (0 - x2), x3, x4, x5)
 else
 j13 ((x1.1, x1.2), x2, x3, x4, x5)
 else
 some x2) k ((a1.1, a1.2), (-1), a0, (a0.length : Int), 0)
theorem zjp (k:Nat) (J3:PPt→PPt→PPt→Option Bool) (Yk:PPt→PPt→PPt→Option Bool) (a0:(List (PPt×PPt))) (a1:PPt):zN [⟨119,[.d kPP,.d kPP,.d kPP],[.bool],fun x=>J3 (x.1) (x.2.1) (x.2.2),none⟩,⟨160,[.d kPP,.d kPP,.d kPP],[.bool],fun x=>Yk (x.1) (x.2.1) (x.2.2),none⟩] tb k Tryz.f134 zdF [.d (.sl (.pair kPP kPP)),.d kPP] [kI] (a0,a1)=zaJ k J3 Yk a0 a1:=by kernel_rfl
def ZR (k:Nat) (a0:(List (PPt×PPt))) (a1:PPt):Option Int:=zaJ k (K3 k) (JH k) a0 a1
theorem zaR (k:Nat):zv Tryz.prog 134 [.d (.sl (.pair kPP kPP)),.d kPP] [kI] (fun x=>ZR k (x.1) (x.2)):=fun x y h=>zh zO mix (zo.cons (ze.of rfl (zgm k)) (zo.cons (ze.of rfl (zgY k)) (zo.nil _))) Tryz.func134 (N:=k) (an:=zdF) (by kernel_rfl) x y ((zjp k (K3 k) (JH k) (x.1) (x.2)).trans h)
end
end Go.Proofs.YtpkkcjmblocjdaaGreat.AM
