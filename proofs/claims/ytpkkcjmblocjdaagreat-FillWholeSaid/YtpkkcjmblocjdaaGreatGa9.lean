/- The functions, by their texts: written by a program. -/
import Derived.Test.YtpkkcjmblocjdaaGreatGa8
import Derived.Test.YtpkkcjmblocjdaaGreatCln
set_option linter.unusedVariables false
set_option linter.unusedSimpArgs false
set_option linter.unusedSectionVars false
set_option maxRecDepth 100000
namespace Go.Proofs.YtpkkcjmblocjdaaGreat.AM
open Go.RowKit Go.Proofs
noncomputable section
def Yq:Ann:=uLf
def Jo (k : Nat) (zH : (Bool × (List Int)) → Option (Bool × (List Int))) (zh : (Bool × (List Int)) → (Bool × (List Int)) → Option (Bool × (List Int))) (zv : (Bool × (List Int)) → Option Int) (a0 : (Bool × (List Int))) (a1 : (Bool × (List Int))) : Option Int :=
 bnd (zH (a1.1, a1.2)) fun r0 =>
 bnd (zh (a0.1, a0.2) (r0.1, r0.2)) fun r1 =>
 bnd (zv (r1.1, r1.2)) fun r2 =>
 some r2
theorem zc2 (k:Nat) (zH:(Bool×(List Int))→Option (Bool×(List Int))) (zh:(Bool×(List Int))→(Bool×(List Int))→Option (Bool×(List Int))) (zv:(Bool×(List Int))→Option Int) (a0:(Bool×(List Int))) (a1:(Bool×(List Int))):zP [⟨66,[.d (.pair .bool (.sl kI))],[.pair .bool (.sl kI)],fun x=>zH x,none⟩,⟨64,[.d (.pair .bool (.sl kI)),.d (.pair .bool (.sl kI))],[.pair .bool (.sl kI)],fun x=>zh (x.1) (x.2),none⟩,⟨67,[.d (.pair .bool (.sl kI))],[kI],fun x=>zv x,none⟩] tb k Tryz.f25 Yq [.d (.pair .bool (.sl kI)),.d (.pair .bool (.sl kI))] [kI] (a0,a1)=Jo k zH zh zv a0 a1:=by kernel_rfl
def jQ (k:Nat) (a0:(Bool×(List Int))) (a1:(Bool×(List Int))):Option Int:=Jo k (zN k) (zn k) (zD k) a0 a1
theorem za8 (k:Nat):zx Tryz.prog 25 [.d (.pair .bool (.sl kI)),.d (.pair .bool (.sl kI))] [kI] (fun x=>jQ k (x.1) (x.2)):=fun x y h=>zk zR mix (zp.cons (ze.of rfl (jS k)) (zp.cons (ze.of rfl (qq k)) (zp.cons (ze.of rfl (je k)) (zp.nil _)))) Tryz.func25 (N:=k) (an:=Yq) (by kernel_rfl) x y ((zc2 k (zN k) (zn k) (zD k) (x.1) (x.2)).trans h)
def Ku:Ann:=uNn uLf (uNn (uNn (.node (some [(1,.box [.d kPl]),(16,.d .bool)]) none uLf uLf) uLf) (uNn uLf (uNn (uNn (.node (some [(1,.box [.d kPl]),(3,.box [.d (.pair kLP (.pair (.sl (.pair kI kPP)) kLP))]),(42,.d .bool)]) none uLf uLf) uLf) (uNn uLf (uNn (uNn uLf (uNn (.node none (some [(1,.box [.d kPl]),(3,.box [.d (.pair kLP (.pair (.sl (.pair kI kPP)) kLP))]),(5,.d kI)]) (uNn uLf (uNn (uNn (uNn uLf (uNn (uNn uLf (uNn (.node none (some [(1,.box [.d kPl]),(3,.box [.d (.pair kLP (.pair (.sl (.pair kI kPP)) kLP))]),(5,.d kI),(6,.d .bool),(7,.d kI)]) (uNn uLf (uNn (uNn (.node (some [(1,.box [.d kPl]),(3,.box [.d (.pair kLP (.pair (.sl (.pair kI kPP)) kLP))]),(5,.d kI),(6,.d .bool),(7,.d kI)]) none uLf uLf) uLf) uLf)) uLf) uLf)) uLf)) uLf) uLf)) uLf) uLf)) (uNn uLf (uNn (uNn uLf (uNn (.node none (some [(3,.box [.d (.pair kLP (.pair (.sl (.pair kI kPP)) kLP))]),(8,.d kLP),(9,.d kI)]) (uNn uLf (uNn (uNn (uNn (.node (some [(3,.box [.d (.pair kLP (.pair (.sl (.pair kI kPP)) kLP))]),(8,.d kLP),(9,.d kI),(149,.d .bool)]) none uLf uLf) uLf) uLf) uLf)) uLf) uLf)) (uNn (.node (some [(2,.d .bool)]) none uLf uLf) uLf))))))))
def QR (k : Nat) (QX : TPl → Option Bool) (QF : TPl → Option Bool) (Zs : Option Bool) (ZV : TPl → Option (TMs × Int)) (ZQ : TMs → Option Int) (Qy : TMs → Option Int) (Zf : LPt → LPt → Option Bool) (Q0 : TMs → Option (Bool × (List Int))) (Qi : TPl → Option (Bool × (List Int))) (ZO : (Bool × (List Int)) → (Bool × (List Int)) → Option Int) (ql : TPl → Option LPt) (q7 : LPt → Int → Int → Option Bool) (qm : LTr → Int → Int → Option Int) (a0 : TPl) : Option Bool :=
 zz (α := (TPl × Bool)) (fun (y0, y1) =>
 bif y1 then
 bnd (Zs) fun r2 =>
 some r2
 else
 bnd (ZV (y0.1, y0.2.1, y0.2.2)) fun r3 =>
 zz (α := (TPl × (TMs × Bool))) (fun (y4, y5, y6) =>
 bif y6 then
 some false
 else
 bnd (Q0 (y5.1, y5.2.1, y5.2.2)) fun r7 =>
 bnd (Qi (y4.1, y4.2.1, y4.2.2)) fun r8 =>
 bnd (ZO (r7.1, r7.2) (r8.1, r8.2)) fun r9 =>
 bif !(decide (r9 = 0)) then
 some false
 else
 zA (α := (TPl × (TMs × Int))) (fun (x11, x12, x13) next10 =>
 bif decide (x13 < (x11.1.length : Int)) then
 zA (α := (TPl × (TMs × (Int × (Bool × Int))))) (fun (x15, x16, x17, x18, x19) next14 =>
 bif decide (x19 < (x16.2.1.length : Int)) then
 zz (α := (TPl × (TMs × (Int × (Bool × Int))))) (fun (y20, y21, y22, y23, y24) =>
 next14 ((y20.1, y20.2.1, y20.2.2), (y21.1, y21.2.1, y21.2.2), y22, y23, w64 (y24 + 1))) fun j25 =>
 bif x18 then
 j25 ((x15.1, x15.2.1, x15.2.2), (x16.1, x16.2.1, x16.2.2), x17, true, x19)
 else
 gd (inb x19 x16.2.1.length) <|
 bif decide ((rdD (0, 0, 0) x16.2.1 x19).1 = x17) then
 j25 ((x15.1, x15.2.1, x15.2.2), (x16.1, x16.2.1, x16.2.2), x17, true, x19)
 else
 gd (inb x19 x16.2.1.length) <|
 bif decide ((rdD (0, 0, 0) x16.2.1 x19).2.1 = x17) then
 j25 ((x15.1, x15.2.1, x15.2.2), (x16.1, x16.2.1, x16.2.2), x17, true, x19)
 else
 gd (inb x19 x16.2.1.length) <|
 j25 ((x15.1, x15.2.1, x15.2.2), (x16.1, x16.2.1, x16.2.2), x17, decide ((rdD (0, 0, 0) x16.2.1 x19).2.2 = x17), x19)
 else
 bif !x18 then
 some false
 else
 next10 ((x15.1, x15.2.1, x15.2.2), (x16.1, x16.2.1, x16.2.2), w64 (x17 + 1))) k ((x11.1, x11.2.1, x11.2.2), (x12.1, x12.2.1, x12.2.2), x13, false, 0)
 else
 bnd (ql (x11.1, x11.2.1, x11.2.2)) fun r26 =>
 zA (α := (TMs × (LPt × Int))) (fun (x28, x29, x30) next27 =>
 bif decide (x30 < (x29.length : Int)) then
 zz (α := (TMs × (LPt × (Int × Bool)))) (fun (y31, y32, y33, y34) =>
 bif y34 then
 some false
 else
 next27 ((y31.1, y31.2.1, y31.2.2), y32, w64 (y33 + 1))) fun j35 =>
 gd (inb x30 x29.length) <|
 gd (inb x30 x29.length) <|
 bnd (q7 x28.2.2 (rdD (0, 0) x29 x30).1 (rdD (0, 0) x29 x30).2) fun r36 =>
 bif !r36 then
 j35 ((x28.1, x28.2.1, x28.2.2), x29, x30, true)
 else
 gd (inb x30 x29.length) <|
 gd (inb x30 x29.length) <|
 bnd (qm x28.2.1 (rdD (0, 0) x29 x30).1 (rdD (0, 0) x29 x30).2) fun r37 =>
 bif decide (r37 < 0) then
 gd (inb x30 x29.length) <|
 gd (inb x30 x29.length) <|
 bnd (qm x28.2.1 (rdD (0, 0) x29 x30).2 (rdD (0, 0) x29 x30).1) fun r38 =>
 j35 ((x28.1, x28.2.1, x28.2.2), x29, x30, decide (r38 < 0))
 else
 j35 ((x28.1, x28.2.1, x28.2.2), x29, x30, false)
 else
 zz (α := Bool) (fun y39 =>
 some y39) fun j40 =>
 bif decide ((x28.2.2.length : Int) = (x29.length : Int)) then
 bnd (Zs) fun r41 =>
 j40 r41
 else
 j40 false) k ((x12.1, x12.2.1, x12.2.2), r26, 0)) k ((y4.1, y4.2.1, y4.2.2), (y5.1, y5.2.1, y5.2.2), 0)) fun j42 =>
 bif !(decide (r3.2 = 0)) then
 j42 ((y0.1, y0.2.1, y0.2.2), (r3.1.1, r3.1.2.1, r3.1.2.2), true)
 else
 bnd (ZQ (r3.1.1, r3.1.2.1, r3.1.2.2)) fun r43 =>
 bif !(decide (r43 = 0)) then
 j42 ((y0.1, y0.2.1, y0.2.2), (r3.1.1, r3.1.2.1, r3.1.2.2), true)
 else
 bnd (Qy (r3.1.1, r3.1.2.1, r3.1.2.2)) fun r44 =>
 bif !(decide (r44 = 0)) then
 j42 ((y0.1, y0.2.1, y0.2.2), (r3.1.1, r3.1.2.1, r3.1.2.2), true)
 else
 bnd (Zf r3.1.1 y0.1) fun r45 =>
 j42 ((y0.1, y0.2.1, y0.2.2), (r3.1.1, r3.1.2.1, r3.1.2.2), !r45)) fun j46 =>
 bnd (QX (a0.1, a0.2.1, a0.2.2)) fun r47 =>
 bif r47 then
 j46 ((a0.1, a0.2.1, a0.2.2), true)
 else
 bnd (QF (a0.1, a0.2.1, a0.2.2)) fun r48 =>
 j46 ((a0.1, a0.2.1, a0.2.2), !r48)
theorem zbF (k:Nat) (QX:TPl→Option Bool) (QF:TPl→Option Bool) (Zs:Option Bool) (ZV:TPl→Option (TMs×Int)) (ZQ:TMs→Option Int) (Qy:TMs→Option Int) (Zf:LPt→LPt→Option Bool) (Q0:TMs→Option (Bool×(List Int))) (Qi:TPl→Option (Bool×(List Int))) (ZO:(Bool×(List Int))→(Bool×(List Int))→Option Int) (ql:TPl→Option LPt) (q7:LPt→Int→Int→Option Bool) (qm:LTr→Int→Int→Option Int) (a0:TPl):zP [⟨10,[.d kPl],[.bool],fun x=>QX x,none⟩,⟨20,[.d kPl],[.bool],fun x=>QF x,none⟩,⟨11,[],[.bool],fun x=>Zs,none⟩,⟨15,[.d kPl],[.pair kLP (.pair (.sl (.pair kI kPP)) kLP),kI],fun x=>ZV x,none⟩,⟨21,[.d (.pair kLP (.pair (.sl (.pair kI kPP)) kLP))],[kI],fun x=>ZQ x,none⟩,⟨22,[.d (.pair kLP (.pair (.sl (.pair kI kPP)) kLP))],[kI],fun x=>Qy x,none⟩,⟨23,[.d kLP,.d kLP],[.bool],fun x=>Zf (x.1) (x.2),none⟩,⟨24,[.d (.pair kLP (.pair (.sl (.pair kI kPP)) kLP))],[.pair .bool (.sl kI)],fun x=>Q0 x,none⟩,⟨26,[.d kPl],[.pair .bool (.sl kI)],fun x=>Qi x,none⟩,⟨25,[.d (.pair .bool (.sl kI)),.d (.pair .bool (.sl kI))],[kI],fun x=>ZO (x.1) (x.2),none⟩,⟨27,[.d kPl],[.sl kPP],fun x=>ql x,none⟩,⟨28,[.d kLP,.d kI,.d kI],[.bool],fun x=>q7 (x.1) (x.2.1) (x.2.2),none⟩,⟨29,[.d (.sl (.pair kI kPP)),.d kI,.d kI],[kI],fun x=>qm (x.1) (x.2.1) (x.2.2),none⟩] tbx k Tryz.f4 Ku [.d kPl] [.bool] a0=QR k QX QF Zs ZV ZQ Qy Zf Q0 Qi ZO ql q7 qm a0:=by kernel_rfl
def Zn (k:Nat) (a0:TPl):Option Bool:=QR k (js k) (qG k) (jH k) (ZY k) (QI k) (jL k) (qZ k) (ZI k) (jv k) (jQ k) (qr k) (qP k) (qd k) a0
theorem zam (k:Nat):zx Tryz.prog 4 [.d kPl] [.bool] (fun x=>Zn k x):=fun x y h=>zk zwj mix (zp.cons (ze.of rfl (zcx k)) (zp.cons (ze.of rfl (zcn k)) (zp.cons (ze.of rfl (zcm k)) (zp.cons (ze.of rfl (zd3 k)) (zp.cons (ze.of rfl (zcy k)) (zp.cons (ze.of rfl (zct k)) (zp.cons (ze.of rfl (zae k)) (zp.cons (ze.of rfl (zcR k)) (zp.cons (ze.of rfl (zbK k)) (zp.cons (ze.of rfl (za8 k)) (zp.cons (ze.of rfl (Jl k)) (zp.cons (ze.of rfl (YQ k)) (zp.cons (ze.of rfl (Yo k)) (zp.nil _)))))))))))))) Tryz.func4 (N:=k) (an:=Ku) (by kernel_rfl) x y ((zbF k (js k) (qG k) (jH k) (ZY k) (QI k) (jL k) (qZ k) (ZI k) (jv k) (jQ k) (qr k) (qP k) (qd k) x).trans h)
end
end Go.Proofs.YtpkkcjmblocjdaaGreat.AM
