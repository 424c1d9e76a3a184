/- The functions, by their texts: written by a program. -/
import Derived.Test.YtpkkcjmblocjdaaGreatGa7
import Derived.Test.YtpkkcjmblocjdaaGreatCln
set_option linter.unusedVariables false
set_option maxRecDepth 100000
namespace Go.Proofs.YtpkkcjmblocjdaaGreat.AM
open Go.RowKit Go.Proofs
noncomputable section
def an_parquetref05_Same : Ann := .node none none .leaf (.node none none (.node (some [(4, .d .bool)]) none .leaf .leaf) .leaf)
def b_parquetref05_Same (k : Nat) (c_parquetref05_SamePoints : LPt → LPt → Option Bool) (c_parquetref05_SameSegs : LPt → LPt → Option Bool) (a0 : TPl) (a1 : TPl) : Option Bool :=
 meet (α := Bool) (fun y0 =>
 some y0) fun j1 =>
 bnd (c_parquetref05_SamePoints a0.1 a1.1) fun r2 =>
 bif r2 then
 bnd (c_parquetref05_SameSegs a0.2.1 a1.2.1) fun r3 =>
 bif r3 then
 bnd (c_parquetref05_SameSegs a0.2.2 a1.2.2) fun r4 =>
 j1 r4
 else
 j1 false
 else
 j1 false
theorem eq_parquetref05_Same (k : Nat) (c_parquetref05_SamePoints : LPt → LPt → Option Bool) (c_parquetref05_SameSegs : LPt → LPt → Option Bool) (a0 : TPl) (a1 : TPl) : textF [⟨23, [.d kLP, .d kLP], [.bool], fun x => c_parquetref05_SamePoints (x.1) (x.2), none⟩, ⟨17, [.d kLP, .d kLP], [.bool], fun x => c_parquetref05_SameSegs (x.1) (x.2), none⟩] tb k Tryz.f19 an_parquetref05_Same [.d kPl, .d kPl] [.bool] (a0, a1) = b_parquetref05_Same k c_parquetref05_SamePoints c_parquetref05_SameSegs a0 a1 := by kernel_rfl
def g_parquetref05_Same (k : Nat) (a0 : TPl) (a1 : TPl) : Option Bool := b_parquetref05_Same k (g_parquetref05_SamePoints k) (g_parquetref05_SameSegs k) a0 a1
theorem tells_parquetref05_Same (k : Nat) : TellsF Tryz.prog 19 [.d kPl, .d kPl] [.bool] (fun x => g_parquetref05_Same k (x.1) (x.2)) := fun x y h => fun_tells tb_ok mix (EsOk.cons (EntryOk.of rfl (tells_parquetref05_SamePoints k)) (EsOk.cons (EntryOk.of rfl (tells_parquetref05_SameSegs k)) (EsOk.nil _))) Tryz.func19 (N := k) (an := an_parquetref05_Same) (by kernel_rfl) x y ((eq_parquetref05_Same k (g_parquetref05_SamePoints k) (g_parquetref05_SameSegs k) (x.1) (x.2)).trans h)

def an_parquetlaw12_FillMakes : Ann := .node none none .leaf (.node none none .leaf (.node none none .leaf (.node none none .leaf (.node none none .leaf (.node none none .leaf (.node none none .leaf (.node none none (.node none none (.node (some [(1, .box [.d kPl]), (3, .box [.d kPl]), (8, .box [.row kPP 44, .d (.sl (.pair kI kPP)), .d kLP]), (57, .d .bool)]) none .leaf .leaf) .leaf) (.node none none (.node none none .leaf (.node none none (.node none (some [(1, .box [.d kPl]), (3, .box [.d kPl]), (8, .box [.row kPP 44, .d (.sl (.pair kI kPP)), .d kLP]), (12, .d kI)]) .leaf .leaf) .leaf)) (.node none none (.node (some [(2, .d .bool)]) none .leaf .leaf) .leaf)))))))))
def b_parquetlaw12_FillMakes (k : Nat) (c_parquetlaw12_many : TPl → Option Bool) (c_parquetlaw12_known : Option Bool) (c_fill_Edges : TPl → Option (LPt × Int)) (c_parquetref12_Edges : TPl → Option (LPt × Int)) (c_mix_fill_Make : TPl → Option (LPt × (TMs × Int))) (c_parquetref12_Make : TPl → Option (TMs × Int)) (c_parquetref05_SameSegs : LPt → LPt → Option Bool) (c_parquetref12_Same : TMs → TMs → Option Bool) (c_parquetref05_Same : TPl → TPl → Option Bool) (a0 : TPl) : Option Bool :=
 bnd (c_parquetlaw12_many (a0.1, a0.2.1, a0.2.2)) fun r0 =>
 bif r0 then
 bnd (c_parquetlaw12_known) fun r1 =>
 some r1
 else
 gd (few a0.1.length) <|
 gd (few a0.2.1.length) <|
 gd (few a0.2.2.length) <|
 bnd (c_fill_Edges (a0.1, a0.2.1, a0.2.2)) fun r2 =>
 bnd (c_parquetref12_Edges (a0.1, a0.2.1, a0.2.2)) fun r3 =>
 bnd (c_mix_fill_Make (a0.1, a0.2.1, a0.2.2)) fun r4 =>
 bnd (c_parquetref12_Make (a0.1, a0.2.1, a0.2.2)) fun r5 =>
 meet (α := (TPl × (TPl × (TMs × Bool)))) (fun (y6, y7, y8, y9) =>
 bif y9 then
 some false
 else
 loopN (α := (TPl × (TPl × (TMs × Int)))) (fun (x11, x12, x13, x14) next10 =>
 bif decide (x14 < (x13.1.length : Int)) then
 gd (inb x14 x13.1.length) <|
 next10 ((x11.1, x11.2.1, x11.2.2), (x12.1, x12.2.1, x12.2.2), (stL x13.1 x14 (7777777, (rdD (0, 0) x13.1 x14).2), x13.2.1, x13.2.2), w64 (x14 + 1))
 else
 meet (α := Bool) (fun y15 =>
 some y15) fun j16 =>
 bnd (c_parquetref05_Same (x12.1, x12.2.1, x12.2.2) (x11.1, x11.2.1, x11.2.2)) fun r17 =>
 bif r17 then
 bnd (c_parquetlaw12_known) fun r18 =>
 j16 r18
 else
 j16 false) k ((y6.1, y6.2.1, y6.2.2), (y7.1, y7.2.1, y7.2.2), (y8.1, y8.2.1, y8.2.2), 0)) fun j19 =>
 bnd (c_parquetref05_SameSegs r2.1 r3.1) fun r20 =>
 bif !r20 then
 j19 ((a0.1, a0.2.1, a0.2.2), (a0.1, a0.2.1, a0.2.2), (r4.1, r4.2.1.2.1, r4.2.1.2.2), true)
 else
 bif !(decide (r2.2 = r3.2)) then
 j19 ((a0.1, a0.2.1, a0.2.2), (a0.1, a0.2.1, a0.2.2), (r4.1, r4.2.1.2.1, r4.2.1.2.2), true)
 else
 bnd (c_parquetref12_Same (r4.1, r4.2.1.2.1, r4.2.1.2.2) (r5.1.1, r5.1.2.1, r5.1.2.2)) fun r21 =>
 bif !r21 then
 j19 ((a0.1, a0.2.1, a0.2.2), (a0.1, a0.2.1, a0.2.2), (r4.1, r4.2.1.2.1, r4.2.1.2.2), true)
 else
 j19 ((a0.1, a0.2.1, a0.2.2), (a0.1, a0.2.1, a0.2.2), (r4.1, r4.2.1.2.1, r4.2.1.2.2), !(decide (r4.2.2 = r5.2)))
theorem eq_parquetlaw12_FillMakes (k : Nat) (c_parquetlaw12_many : TPl → Option Bool) (c_parquetlaw12_known : Option Bool) (c_fill_Edges : TPl → Option (LPt × Int)) (c_parquetref12_Edges : TPl → Option (LPt × Int)) (c_mix_fill_Make : TPl → Option (LPt × (TMs × Int))) (c_parquetref12_Make : TPl → Option (TMs × Int)) (c_parquetref05_SameSegs : LPt → LPt → Option Bool) (c_parquetref12_Same : TMs → TMs → Option Bool) (c_parquetref05_Same : TPl → TPl → Option Bool) (a0 : TPl) : textF [⟨12, [], [], fun _ => none, some (.code tb Tryz.f12)⟩, ⟨10, [.d kPl], [.bool], fun x => c_parquetlaw12_many x, none⟩, ⟨11, [], [.bool], fun x => c_parquetlaw12_known, none⟩, ⟨13, [.d kPl], [.sl kPP, kI], fun x => c_fill_Edges x, none⟩, ⟨14, [.d kPl], [.sl kPP, kI], fun x => c_parquetref12_Edges x, none⟩, ⟨15, [], [], fun _ => none, some (.mix [.d kPl] kPP 44 [.pair kLP (.pair (.sl (.pair kI kPP)) kLP), kI] fun x => c_mix_fill_Make x)⟩, ⟨16, [.d kPl], [.pair kLP (.pair (.sl (.pair kI kPP)) kLP), kI], fun x => c_parquetref12_Make x, none⟩, ⟨17, [.d kLP, .d kLP], [.bool], fun x => c_parquetref05_SameSegs (x.1) (x.2), none⟩, ⟨18, [.d (.pair kLP (.pair (.sl (.pair kI kPP)) kLP)), .d (.pair kLP (.pair (.sl (.pair kI kPP)) kLP))], [.bool], fun x => c_parquetref12_Same (x.1) (x.2), none⟩, ⟨19, [.d kPl, .d kPl], [.bool], fun x => c_parquetref05_Same (x.1) (x.2), none⟩] tb k Tryz.f3 an_parquetlaw12_FillMakes [.d kPl] [.bool] a0 = b_parquetlaw12_FillMakes k c_parquetlaw12_many c_parquetlaw12_known c_fill_Edges c_parquetref12_Edges c_mix_fill_Make c_parquetref12_Make c_parquetref05_SameSegs c_parquetref12_Same c_parquetref05_Same a0 := by kernel_rfl
def g_parquetlaw12_FillMakes (k : Nat) (a0 : TPl) : Option Bool := b_parquetlaw12_FillMakes k (g_parquetlaw12_many k) (g_parquetlaw12_known k) (g_fill_Edges k) (g_parquetref12_Edges k) (g_mix_fill_Make k) (g_parquetref12_Make k) (g_parquetref05_SameSegs k) (g_parquetref12_Same k) (g_parquetref05_Same k) a0
theorem tells_parquetlaw12_FillMakes (k : Nat) : TellsF Tryz.prog 3 [.d kPl] [.bool] (fun x => g_parquetlaw12_FillMakes k x) := fun x y h => fun_tells tb_ok mix (EsOk.cons (EntryOk.go tb_ok mix Tryz.func12 (by kernel_rfl)) (EsOk.cons (EntryOk.of rfl (tells_parquetlaw12_many k)) (EsOk.cons (EntryOk.of rfl (tells_parquetlaw12_known k)) (EsOk.cons (EntryOk.of rfl (tells_fill_Edges k)) (EsOk.cons (EntryOk.of rfl (tells_parquetref12_Edges k)) (EsOk.cons (EntryOk.mix (tells_mix_fill_Make k)) (EsOk.cons (EntryOk.of rfl (tells_parquetref12_Make k)) (EsOk.cons (EntryOk.of rfl (tells_parquetref05_SameSegs k)) (EsOk.cons (EntryOk.of rfl (tells_parquetref12_Same k)) (EsOk.cons (EntryOk.of rfl (tells_parquetref05_Same k)) (EsOk.nil _))))))))))) Tryz.func3 (N := k) (an := an_parquetlaw12_FillMakes) (by kernel_rfl) x y ((eq_parquetlaw12_FillMakes k (g_parquetlaw12_many k) (g_parquetlaw12_known k) (g_fill_Edges k) (g_parquetref12_Edges k) (g_mix_fill_Make k) (g_parquetref12_Make k) (g_parquetref05_SameSegs k) (g_parquetref12_Same k) (g_parquetref05_Same k) x).trans h)

end
end Go.Proofs.YtpkkcjmblocjdaaGreat.AM
