/- The functions, by their texts: written by a program. -/
import Derived.Test.YtebokfdiamepcaaGb1
set_option linter.unusedVariables false
set_option maxRecDepth 100000
namespace Go.Proofs.Ytebokfdiamepcaa.AM
open Go.RowKit Go.Proofs
def an_parquetlaw04_p : Ann := .leaf
def g_parquetlaw04_p (k : Nat) (a0 : Int) (a1 : Int) : Option (Int × Int) :=
  some (a0, a1)
theorem eq_parquetlaw04_p (k : Nat) (a0 : Int) (a1 : Int) : textF [] tb k Try.f18 an_parquetlaw04_p [.d kI, .d kI] [.pair kI kI] (a0, a1) = g_parquetlaw04_p k a0 a1 := by kernel_rfl
theorem tells_parquetlaw04_p (k : Nat) : TellsF Try.prog 18 [.d kI, .d kI] [.pair kI kI] (fun x => g_parquetlaw04_p k (x.1) (x.2)) := fun x y h => fun_tells tb_ok mix (es := []) (EsOk.nil _) Try.func18 (N := k) (an := an_parquetlaw04_p) (by kernel_rfl) x y ((eq_parquetlaw04_p k (x.1) (x.2)).trans h)

def an_parquetlaw04_known : Ann := .node none none .leaf (.node none none .leaf (.node none none .leaf (.node none none .leaf (.node none none .leaf (.node none none .leaf (.node none none .leaf (.node none none (.node (some [(0, .d .bool)]) none .leaf .leaf) .leaf)))))))
def b_parquetlaw04_known (k : Nat) (c_parquetlaw04_p : Int → Int → Option (Int × Int)) (c_meet_Segs : (Int × Int) → (Int × Int) → (Int × Int) → (Int × Int) → Option (Int × Int)) (c_meet_On : (Int × Int) → (Int × Int) → (Int × Int) → Option Bool) (c_meet_Inside : (Int × Int) → (Int × Int) → (Int × Int) → Option Bool) : Option Bool :=
  bnd (c_parquetlaw04_p 0 0) fun r0 =>
   bnd (c_parquetlaw04_p 4 0) fun r1 =>
   bnd (c_parquetlaw04_p 2 (-1)) fun r2 =>
   bnd (c_parquetlaw04_p 2 1) fun r3 =>
   bnd (c_meet_Segs (r0.1, r0.2) (r1.1, r1.2) (r2.1, r2.2) (r3.1, r3.2)) fun r4 =>
   bnd (c_parquetlaw04_p 0 0) fun r5 =>
   bnd (c_parquetlaw04_p 4 0) fun r6 =>
   bnd (c_parquetlaw04_p 2 0) fun r7 =>
   bnd (c_parquetlaw04_p 2 1) fun r8 =>
   bnd (c_meet_Segs (r5.1, r5.2) (r6.1, r6.2) (r7.1, r7.2) (r8.1, r8.2)) fun r9 =>
   bnd (c_parquetlaw04_p 0 0) fun r10 =>
   bnd (c_parquetlaw04_p 4 0) fun r11 =>
   bnd (c_parquetlaw04_p 4 0) fun r12 =>
   bnd (c_parquetlaw04_p 5 5) fun r13 =>
   bnd (c_meet_Segs (r10.1, r10.2) (r11.1, r11.2) (r12.1, r12.2) (r13.1, r13.2)) fun r14 =>
   bnd (c_parquetlaw04_p 0 0) fun r15 =>
   bnd (c_parquetlaw04_p 4 0) fun r16 =>
   bnd (c_parquetlaw04_p 3 0) fun r17 =>
   bnd (c_parquetlaw04_p 9 0) fun r18 =>
   bnd (c_meet_Segs (r15.1, r15.2) (r16.1, r16.2) (r17.1, r17.2) (r18.1, r18.2)) fun r19 =>
   bnd (c_parquetlaw04_p 0 0) fun r20 =>
   bnd (c_parquetlaw04_p 4 0) fun r21 =>
   bnd (c_parquetlaw04_p 4 0) fun r22 =>
   bnd (c_parquetlaw04_p 9 0) fun r23 =>
   bnd (c_meet_Segs (r20.1, r20.2) (r21.1, r21.2) (r22.1, r22.2) (r23.1, r23.2)) fun r24 =>
   bnd (c_parquetlaw04_p 0 0) fun r25 =>
   bnd (c_parquetlaw04_p 0 0) fun r26 =>
   bnd (c_parquetlaw04_p 4 0) fun r27 =>
   bnd (c_parquetlaw04_p 9 0) fun r28 =>
   bnd (c_meet_Segs (r25.1, r25.2) (r26.1, r26.2) (r27.1, r27.2) (r28.1, r28.2)) fun r29 =>
   meet (α := Bool) (fun y30 =>
    some y30) fun j31 =>
   bif decide (r4.2 = 0) then
    bif decide (r4.1 = 3) then
     bif decide (r9.1 = 2) then
      bif decide (r14.1 = 1) then
       bif decide (r19.1 = 4) then
        bif decide (r24.1 = 1) then
         bif decide (r29.2 = 2) then
          bnd (c_parquetlaw04_p 0 0) fun r32 =>
          bnd (c_parquetlaw04_p 4 0) fun r33 =>
          bnd (c_parquetlaw04_p 4 0) fun r34 =>
          bnd (c_meet_On (r32.1, r32.2) (r33.1, r33.2) (r34.1, r34.2)) fun r35 =>
          bif r35 then
           bnd (c_parquetlaw04_p 0 0) fun r36 =>
           bnd (c_parquetlaw04_p 4 0) fun r37 =>
           bnd (c_parquetlaw04_p 4 0) fun r38 =>
           bnd (c_meet_Inside (r36.1, r36.2) (r37.1, r37.2) (r38.1, r38.2)) fun r39 =>
           j31 (!r39)
          else
           j31 false
         else
          j31 false
        else
         j31 false
       else
        j31 false
      else
       j31 false
     else
      j31 false
    else
     j31 false
   else
    j31 false
theorem eq_parquetlaw04_known (k : Nat) (c_parquetlaw04_p : Int → Int → Option (Int × Int)) (c_meet_Segs : (Int × Int) → (Int × Int) → (Int × Int) → (Int × Int) → Option (Int × Int)) (c_meet_On : (Int × Int) → (Int × Int) → (Int × Int) → Option Bool) (c_meet_Inside : (Int × Int) → (Int × Int) → (Int × Int) → Option Bool) : textF [⟨18, [.d kI, .d kI], [.pair kI kI], fun x => c_parquetlaw04_p (x.1) (x.2)⟩, ⟨10, [.d (.pair kI kI), .d (.pair kI kI), .d (.pair kI kI), .d (.pair kI kI)], [kI, kI], fun x => c_meet_Segs (x.1) (x.2.1) (x.2.2.1) (x.2.2.2)⟩, ⟨13, [.d (.pair kI kI), .d (.pair kI kI), .d (.pair kI kI)], [.bool], fun x => c_meet_On (x.1) (x.2.1) (x.2.2)⟩, ⟨15, [.d (.pair kI kI), .d (.pair kI kI), .d (.pair kI kI)], [.bool], fun x => c_meet_Inside (x.1) (x.2.1) (x.2.2)⟩] tb k Try.f12 an_parquetlaw04_known [] [.bool] () = b_parquetlaw04_known k c_parquetlaw04_p c_meet_Segs c_meet_On c_meet_Inside := by kernel_rfl
def g_parquetlaw04_known (k : Nat) : Option Bool := b_parquetlaw04_known k (g_parquetlaw04_p k) (g_meet_Segs k) (g_meet_On k) (g_meet_Inside k)
theorem tells_parquetlaw04_known (k : Nat) : TellsF Try.prog 12 [] [.bool] (fun x => g_parquetlaw04_known k) := fun x y h => fun_tells tb_ok mix (es := [⟨18, [.d kI, .d kI], [.pair kI kI], fun x => g_parquetlaw04_p k (x.1) (x.2)⟩, ⟨10, [.d (.pair kI kI), .d (.pair kI kI), .d (.pair kI kI), .d (.pair kI kI)], [kI, kI], fun x => g_meet_Segs k (x.1) (x.2.1) (x.2.2.1) (x.2.2.2)⟩, ⟨13, [.d (.pair kI kI), .d (.pair kI kI), .d (.pair kI kI)], [.bool], fun x => g_meet_On k (x.1) (x.2.1) (x.2.2)⟩, ⟨15, [.d (.pair kI kI), .d (.pair kI kI), .d (.pair kI kI)], [.bool], fun x => g_meet_Inside k (x.1) (x.2.1) (x.2.2)⟩]) (EsOk.cons ⟨rfl, tells_parquetlaw04_p k⟩ (EsOk.cons ⟨rfl, tells_meet_Segs k⟩ (EsOk.cons ⟨rfl, tells_meet_On k⟩ (EsOk.cons ⟨rfl, tells_meet_Inside k⟩ (EsOk.nil _))))) Try.func12 (N := k) (an := an_parquetlaw04_known) (by kernel_rfl) x y ((eq_parquetlaw04_known k (g_parquetlaw04_p k) (g_meet_Segs k) (g_meet_On k) (g_meet_Inside k)).trans h)

def an_parquetlaw04_MeetTells : Ann := .node none none .leaf (.node none none .leaf (.node none none .leaf (.node none none .leaf (.node none none .leaf (.node none none .leaf (.node none none (.node (some [(8, .d .bool)]) none .leaf .leaf) .leaf))))))
def b_parquetlaw04_MeetTells (k : Nat) (c_meet_Segs : (Int × Int) → (Int × Int) → (Int × Int) → (Int × Int) → Option (Int × Int)) (c_parquetref04_Segs : (Int × Int) → (Int × Int) → (Int × Int) → (Int × Int) → Option (Int × Int)) (c_parquetlaw04_known : Option Bool) (a0 : (Int × Int)) (a1 : (Int × Int)) (a2 : (Int × Int)) (a3 : (Int × Int)) : Option Bool :=
  bnd (c_meet_Segs (a0.1, a0.2) (a1.1, a1.2) (a2.1, a2.2) (a3.1, a3.2)) fun r0 =>
   bnd (c_parquetref04_Segs (a0.1, a0.2) (a1.1, a1.2) (a2.1, a2.2) (a3.1, a3.2)) fun r1 =>
   bnd (c_meet_Segs (a1.1, a1.2) (a0.1, a0.2) (a2.1, a2.2) (a3.1, a3.2)) fun r2 =>
   bnd (c_meet_Segs (a2.1, a2.2) (a3.1, a3.2) (a0.1, a0.2) (a1.1, a1.2)) fun r3 =>
   bnd (c_meet_Segs (a0.1, a0.2) (a1.1, a1.2) (a3.1, a3.2) (a2.1, a2.2)) fun r4 =>
   meet (α := Bool) (fun y5 =>
    some y5) fun j6 =>
   bif decide (r0.1 = r1.1) then
    bif decide (r0.2 = r1.2) then
     bif decide (r2.1 = r0.1) then
      bif decide (r3.1 = r0.1) then
       bif decide (r4.1 = r0.1) then
        bnd (c_parquetlaw04_known) fun r7 =>
        j6 r7
       else
        j6 false
      else
       j6 false
     else
      j6 false
    else
     j6 false
   else
    j6 false
theorem eq_parquetlaw04_MeetTells (k : Nat) (c_meet_Segs : (Int × Int) → (Int × Int) → (Int × Int) → (Int × Int) → Option (Int × Int)) (c_parquetref04_Segs : (Int × Int) → (Int × Int) → (Int × Int) → (Int × Int) → Option (Int × Int)) (c_parquetlaw04_known : Option Bool) (a0 : (Int × Int)) (a1 : (Int × Int)) (a2 : (Int × Int)) (a3 : (Int × Int)) : textF [⟨10, [.d (.pair kI kI), .d (.pair kI kI), .d (.pair kI kI), .d (.pair kI kI)], [kI, kI], fun x => c_meet_Segs (x.1) (x.2.1) (x.2.2.1) (x.2.2.2)⟩, ⟨11, [.d (.pair kI kI), .d (.pair kI kI), .d (.pair kI kI), .d (.pair kI kI)], [kI, kI], fun x => c_parquetref04_Segs (x.1) (x.2.1) (x.2.2.1) (x.2.2.2)⟩, ⟨12, [], [.bool], fun x => c_parquetlaw04_known⟩] tb k Try.f3 an_parquetlaw04_MeetTells [.d (.pair kI kI), .d (.pair kI kI), .d (.pair kI kI), .d (.pair kI kI)] [.bool] (a0, a1, a2, a3) = b_parquetlaw04_MeetTells k c_meet_Segs c_parquetref04_Segs c_parquetlaw04_known a0 a1 a2 a3 := by kernel_rfl
def g_parquetlaw04_MeetTells (k : Nat) (a0 : (Int × Int)) (a1 : (Int × Int)) (a2 : (Int × Int)) (a3 : (Int × Int)) : Option Bool := b_parquetlaw04_MeetTells k (g_meet_Segs k) (g_parquetref04_Segs k) (g_parquetlaw04_known k) a0 a1 a2 a3
theorem tells_parquetlaw04_MeetTells (k : Nat) : TellsF Try.prog 3 [.d (.pair kI kI), .d (.pair kI kI), .d (.pair kI kI), .d (.pair kI kI)] [.bool] (fun x => g_parquetlaw04_MeetTells k (x.1) (x.2.1) (x.2.2.1) (x.2.2.2)) := fun x y h => fun_tells tb_ok mix (es := [⟨10, [.d (.pair kI kI), .d (.pair kI kI), .d (.pair kI kI), .d (.pair kI kI)], [kI, kI], fun x => g_meet_Segs k (x.1) (x.2.1) (x.2.2.1) (x.2.2.2)⟩, ⟨11, [.d (.pair kI kI), .d (.pair kI kI), .d (.pair kI kI), .d (.pair kI kI)], [kI, kI], fun x => g_parquetref04_Segs k (x.1) (x.2.1) (x.2.2.1) (x.2.2.2)⟩, ⟨12, [], [.bool], fun x => g_parquetlaw04_known k⟩]) (EsOk.cons ⟨rfl, tells_meet_Segs k⟩ (EsOk.cons ⟨rfl, tells_parquetref04_Segs k⟩ (EsOk.cons ⟨rfl, tells_parquetlaw04_known k⟩ (EsOk.nil _)))) Try.func3 (N := k) (an := an_parquetlaw04_MeetTells) (by kernel_rfl) x y ((eq_parquetlaw04_MeetTells k (g_meet_Segs k) (g_parquetref04_Segs k) (g_parquetlaw04_known k) (x.1) (x.2.1) (x.2.2.1) (x.2.2.2)).trans h)

def an_parquetref04_On : Ann := .leaf
def b_parquetref04_On (k : Nat) (c_parquetref04_on : (Int × Int) → (Int × Int) → (Int × Int) → Option Bool) (a0 : (Int × Int)) (a1 : (Int × Int)) (a2 : (Int × Int)) : Option Bool :=
  bnd (c_parquetref04_on (a0.1, a0.2) (a1.1, a1.2) (a2.1, a2.2)) fun r0 =>
   some r0
theorem eq_parquetref04_On (k : Nat) (c_parquetref04_on : (Int × Int) → (Int × Int) → (Int × Int) → Option Bool) (a0 : (Int × Int)) (a1 : (Int × Int)) (a2 : (Int × Int)) : textF [⟨24, [.d (.pair kI kI), .d (.pair kI kI), .d (.pair kI kI)], [.bool], fun x => c_parquetref04_on (x.1) (x.2.1) (x.2.2)⟩] tb k Try.f14 an_parquetref04_On [.d (.pair kI kI), .d (.pair kI kI), .d (.pair kI kI)] [.bool] (a0, a1, a2) = b_parquetref04_On k c_parquetref04_on a0 a1 a2 := by kernel_rfl
def g_parquetref04_On (k : Nat) (a0 : (Int × Int)) (a1 : (Int × Int)) (a2 : (Int × Int)) : Option Bool := b_parquetref04_On k (g_parquetref04_on k) a0 a1 a2
theorem tells_parquetref04_On (k : Nat) : TellsF Try.prog 14 [.d (.pair kI kI), .d (.pair kI kI), .d (.pair kI kI)] [.bool] (fun x => g_parquetref04_On k (x.1) (x.2.1) (x.2.2)) := fun x y h => fun_tells tb_ok mix (es := [⟨24, [.d (.pair kI kI), .d (.pair kI kI), .d (.pair kI kI)], [.bool], fun x => g_parquetref04_on k (x.1) (x.2.1) (x.2.2)⟩]) (EsOk.cons ⟨rfl, tells_parquetref04_on k⟩ (EsOk.nil _)) Try.func14 (N := k) (an := an_parquetref04_On) (by kernel_rfl) x y ((eq_parquetref04_On k (g_parquetref04_on k) (x.1) (x.2.1) (x.2.2)).trans h)

def an_parquetref04_Inside : Ann := .node none none .leaf (.node none none (.node (some [(6, .d .bool)]) none .leaf .leaf) .leaf)
def b_parquetref04_Inside (k : Nat) (c_parquetref04_on : (Int × Int) → (Int × Int) → (Int × Int) → Option Bool) (a0 : (Int × Int)) (a1 : (Int × Int)) (a2 : (Int × Int)) : Option Bool :=
  meet (α := Bool) (fun y0 =>
    some y0) fun j1 =>
   bnd (c_parquetref04_on (a0.1, a0.2) (a1.1, a1.2) (a2.1, a2.2)) fun r2 =>
   bif r2 then
    bif !((decide (a2.1 = a0.1)) && (decide (a2.2 = a0.2))) then
     j1 (!((decide (a2.1 = a1.1)) && (decide (a2.2 = a1.2))))
    else
     j1 false
   else
    j1 false
theorem eq_parquetref04_Inside (k : Nat) (c_parquetref04_on : (Int × Int) → (Int × Int) → (Int × Int) → Option Bool) (a0 : (Int × Int)) (a1 : (Int × Int)) (a2 : (Int × Int)) : textF [⟨24, [.d (.pair kI kI), .d (.pair kI kI), .d (.pair kI kI)], [.bool], fun x => c_parquetref04_on (x.1) (x.2.1) (x.2.2)⟩] tb k Try.f16 an_parquetref04_Inside [.d (.pair kI kI), .d (.pair kI kI), .d (.pair kI kI)] [.bool] (a0, a1, a2) = b_parquetref04_Inside k c_parquetref04_on a0 a1 a2 := by kernel_rfl
def g_parquetref04_Inside (k : Nat) (a0 : (Int × Int)) (a1 : (Int × Int)) (a2 : (Int × Int)) : Option Bool := b_parquetref04_Inside k (g_parquetref04_on k) a0 a1 a2
theorem tells_parquetref04_Inside (k : Nat) : TellsF Try.prog 16 [.d (.pair kI kI), .d (.pair kI kI), .d (.pair kI kI)] [.bool] (fun x => g_parquetref04_Inside k (x.1) (x.2.1) (x.2.2)) := fun x y h => fun_tells tb_ok mix (es := [⟨24, [.d (.pair kI kI), .d (.pair kI kI), .d (.pair kI kI)], [.bool], fun x => g_parquetref04_on k (x.1) (x.2.1) (x.2.2)⟩]) (EsOk.cons ⟨rfl, tells_parquetref04_on k⟩ (EsOk.nil _)) Try.func16 (N := k) (an := an_parquetref04_Inside) (by kernel_rfl) x y ((eq_parquetref04_Inside k (g_parquetref04_on k) (x.1) (x.2.1) (x.2.2)).trans h)

def an_parquetlaw04_MeetOns : Ann := .node none none .leaf (.node none none (.node (some [(6, .d .bool)]) none .leaf .leaf) .leaf)
def b_parquetlaw04_MeetOns (k : Nat) (c_meet_On : (Int × Int) → (Int × Int) → (Int × Int) → Option Bool) (c_parquetref04_On : (Int × Int) → (Int × Int) → (Int × Int) → Option Bool) (c_meet_Inside : (Int × Int) → (Int × Int) → (Int × Int) → Option Bool) (c_parquetref04_Inside : (Int × Int) → (Int × Int) → (Int × Int) → Option Bool) (c_parquetlaw04_known : Option Bool) (a0 : (Int × Int)) (a1 : (Int × Int)) (a2 : (Int × Int)) : Option Bool :=
  meet (α := Bool) (fun y0 =>
    some y0) fun j1 =>
   bnd (c_meet_On (a0.1, a0.2) (a1.1, a1.2) (a2.1, a2.2)) fun r2 =>
   bnd (c_parquetref04_On (a0.1, a0.2) (a1.1, a1.2) (a2.1, a2.2)) fun r3 =>
   bif r2 == r3 then
    bnd (c_meet_Inside (a0.1, a0.2) (a1.1, a1.2) (a2.1, a2.2)) fun r4 =>
    bnd (c_parquetref04_Inside (a0.1, a0.2) (a1.1, a1.2) (a2.1, a2.2)) fun r5 =>
    bif r4 == r5 then
     bnd (c_meet_On (a1.1, a1.2) (a0.1, a0.2) (a2.1, a2.2)) fun r6 =>
     bnd (c_meet_On (a0.1, a0.2) (a1.1, a1.2) (a2.1, a2.2)) fun r7 =>
     bif r6 == r7 then
      bnd (c_parquetlaw04_known) fun r8 =>
      j1 r8
     else
      j1 false
    else
     j1 false
   else
    j1 false
theorem eq_parquetlaw04_MeetOns (k : Nat) (c_meet_On : (Int × Int) → (Int × Int) → (Int × Int) → Option Bool) (c_parquetref04_On : (Int × Int) → (Int × Int) → (Int × Int) → Option Bool) (c_meet_Inside : (Int × Int) → (Int × Int) → (Int × Int) → Option Bool) (c_parquetref04_Inside : (Int × Int) → (Int × Int) → (Int × Int) → Option Bool) (c_parquetlaw04_known : Option Bool) (a0 : (Int × Int)) (a1 : (Int × Int)) (a2 : (Int × Int)) : textF [⟨13, [.d (.pair kI kI), .d (.pair kI kI), .d (.pair kI kI)], [.bool], fun x => c_meet_On (x.1) (x.2.1) (x.2.2)⟩, ⟨14, [.d (.pair kI kI), .d (.pair kI kI), .d (.pair kI kI)], [.bool], fun x => c_parquetref04_On (x.1) (x.2.1) (x.2.2)⟩, ⟨15, [.d (.pair kI kI), .d (.pair kI kI), .d (.pair kI kI)], [.bool], fun x => c_meet_Inside (x.1) (x.2.1) (x.2.2)⟩, ⟨16, [.d (.pair kI kI), .d (.pair kI kI), .d (.pair kI kI)], [.bool], fun x => c_parquetref04_Inside (x.1) (x.2.1) (x.2.2)⟩, ⟨12, [], [.bool], fun x => c_parquetlaw04_known⟩] tb k Try.f4 an_parquetlaw04_MeetOns [.d (.pair kI kI), .d (.pair kI kI), .d (.pair kI kI)] [.bool] (a0, a1, a2) = b_parquetlaw04_MeetOns k c_meet_On c_parquetref04_On c_meet_Inside c_parquetref04_Inside c_parquetlaw04_known a0 a1 a2 := by kernel_rfl
def g_parquetlaw04_MeetOns (k : Nat) (a0 : (Int × Int)) (a1 : (Int × Int)) (a2 : (Int × Int)) : Option Bool := b_parquetlaw04_MeetOns k (g_meet_On k) (g_parquetref04_On k) (g_meet_Inside k) (g_parquetref04_Inside k) (g_parquetlaw04_known k) a0 a1 a2
theorem tells_parquetlaw04_MeetOns (k : Nat) : TellsF Try.prog 4 [.d (.pair kI kI), .d (.pair kI kI), .d (.pair kI kI)] [.bool] (fun x => g_parquetlaw04_MeetOns k (x.1) (x.2.1) (x.2.2)) := fun x y h => fun_tells tb_ok mix (es := [⟨13, [.d (.pair kI kI), .d (.pair kI kI), .d (.pair kI kI)], [.bool], fun x => g_meet_On k (x.1) (x.2.1) (x.2.2)⟩, ⟨14, [.d (.pair kI kI), .d (.pair kI kI), .d (.pair kI kI)], [.bool], fun x => g_parquetref04_On k (x.1) (x.2.1) (x.2.2)⟩, ⟨15, [.d (.pair kI kI), .d (.pair kI kI), .d (.pair kI kI)], [.bool], fun x => g_meet_Inside k (x.1) (x.2.1) (x.2.2)⟩, ⟨16, [.d (.pair kI kI), .d (.pair kI kI), .d (.pair kI kI)], [.bool], fun x => g_parquetref04_Inside k (x.1) (x.2.1) (x.2.2)⟩, ⟨12, [], [.bool], fun x => g_parquetlaw04_known k⟩]) (EsOk.cons ⟨rfl, tells_meet_On k⟩ (EsOk.cons ⟨rfl, tells_parquetref04_On k⟩ (EsOk.cons ⟨rfl, tells_meet_Inside k⟩ (EsOk.cons ⟨rfl, tells_parquetref04_Inside k⟩ (EsOk.cons ⟨rfl, tells_parquetlaw04_known k⟩ (EsOk.nil _)))))) Try.func4 (N := k) (an := an_parquetlaw04_MeetOns) (by kernel_rfl) x y ((eq_parquetlaw04_MeetOns k (g_meet_On k) (g_parquetref04_On k) (g_meet_Inside k) (g_parquetref04_Inside k) (g_parquetlaw04_known k) (x.1) (x.2.1) (x.2.2)).trans h)

def an_parquetlaw04_MeetEnds : Ann := .node none none .leaf (.node none none .leaf (.node none none (.node none none .leaf (.node none none (.node none none (.node (some [(8, .d .bool)]) none .leaf .leaf) .leaf) .leaf)) (.node none none .leaf (.node none none .leaf (.node none none .leaf (.node none none .leaf (.node none none (.node none none .leaf (.node none none (.node none (some [(9, .d kI), (11, .d kI), (12, .row .bool 4), (13, .row .bool 4), (14, .d kI), (15, .d kI)]) (.node none none .leaf (.node none none (.node none none (.node none none (.node none none .leaf (.node (some [(9, .d kI), (11, .d kI), (12, .row .bool 4), (13, .row .bool 4), (14, .d kI), (15, .d kI)]) none .leaf .leaf)) (.node none none .leaf (.node (some [(9, .d kI), (11, .d kI), (12, .row .bool 4), (13, .row .bool 4), (14, .d kI), (15, .d kI)]) none .leaf .leaf))) .leaf) .leaf)) .leaf) .leaf)) (.node none none (.node none none .leaf (.node none none (.node none none (.node none none .leaf (.node (some [(11, .d kI), (14, .d kI), (85, .d kI), (86, .d .bool)]) none .leaf .leaf)) (.node none none (.node none none (.node (some [(8, .d .bool)]) none .leaf .leaf) .leaf) (.node none none .leaf (.node none none (.node none none (.node (some [(8, .d .bool)]) none .leaf .leaf) .leaf) (.node none none .leaf (.node none none (.node none none (.node (some [(8, .d .bool)]) none .leaf .leaf) .leaf) (.node none none .leaf (.node none none (.node none none (.node (some [(8, .d .bool)]) none .leaf .leaf) .leaf) .leaf)))))))) .leaf)) .leaf))))))))
def b_parquetlaw04_MeetEnds (k : Nat) (c_meet_Segs : (Int × Int) → (Int × Int) → (Int × Int) → (Int × Int) → Option (Int × Int)) (c_parquetlaw04_known : Option Bool) (c_meet_On : (Int × Int) → (Int × Int) → (Int × Int) → Option Bool) (c_meet_Inside : (Int × Int) → (Int × Int) → (Int × Int) → Option Bool) (a0 : (Int × Int)) (a1 : (Int × Int)) (a2 : (Int × Int)) (a3 : (Int × Int)) : Option Bool :=
  bnd (c_meet_Segs (a0.1, a0.2) (a1.1, a1.2) (a2.1, a2.2) (a3.1, a3.2)) fun r0 =>
   bif !(decide (r0.2 = 0)) then
    meet (α := Bool) (fun y1 =>
     some y1) fun j2 =>
    bif decide (r0.1 = 0) then
     bif decide (r0.2 = 2) then
      bnd (c_parquetlaw04_known) fun r3 =>
      j2 r3
     else
      j2 false
    else
     j2 false
   else
    bnd (c_meet_On (a0.1, a0.2) (a1.1, a1.2) (a2.1, a2.2)) fun r4 =>
    bnd (c_meet_On (a0.1, a0.2) (a1.1, a1.2) (a3.1, a3.2)) fun r5 =>
    bnd (c_meet_On (a2.1, a2.2) (a3.1, a3.2) (a0.1, a0.2)) fun r6 =>
    bnd (c_meet_On (a2.1, a2.2) (a3.1, a3.2) (a1.1, a1.2)) fun r7 =>
    bnd (c_meet_Inside (a0.1, a0.2) (a1.1, a1.2) (a2.1, a2.2)) fun r8 =>
    bnd (c_meet_Inside (a0.1, a0.2) (a1.1, a1.2) (a3.1, a3.2)) fun r9 =>
    bnd (c_meet_Inside (a2.1, a2.2) (a3.1, a3.2) (a0.1, a0.2)) fun r10 =>
    bnd (c_meet_Inside (a2.1, a2.2) (a3.1, a3.2) (a1.1, a1.2)) fun r11 =>
    loopN (α := (Int × (Int × ((List Bool) × ((List Bool) × (Int × Int)))))) (fun (x13, x14, x15, x16, x17, x18) next12 =>
     bif decide (x18 < 4) then
      gd (inb x18 x15.length) <|
      meet (α := (Int × (Int × ((List Bool) × ((List Bool) × (Int × Int)))))) (fun (y19, y20, y21, y22, y23, y24) =>
       gd (inb y24 y22.length) <|
       meet (α := (Int × (Int × ((List Bool) × ((List Bool) × (Int × Int)))))) (fun (y25, y26, y27, y28, y29, y30) =>
        next12 (y25, y26, y27, y28, y29, w64 (y30 + 1))) fun j31 =>
       bif rdD false y22 y24 then
        j31 (y19, y20, y21, y22, w64 (y23 + 1), y24)
       else
        j31 (y19, y20, y21, y22, y23, y24)) fun j32 =>
      bif rdD false x15 x18 then
       j32 (x13, w64 (x14 + 1), x15, x16, x17, x18)
      else
       j32 (x13, x14, x15, x16, x17, x18)
     else
      meet (α := (Int × (Int × (Int × Bool)))) (fun (y33, y34, y35, y36) =>
       bif y36 then
        meet (α := Bool) (fun y37 =>
         some y37) fun j38 =>
        bif decide (y33 = 0) then
         bnd (c_parquetlaw04_known) fun r39 =>
         j38 r39
        else
         j38 false
       else
        bif decide (y35 = 1) then
         meet (α := Bool) (fun y40 =>
          some y40) fun j41 =>
         bif decide (y33 = 2) then
          bif decide (y34 = 0) then
           bnd (c_parquetlaw04_known) fun r42 =>
           j41 r42
          else
           j41 false
         else
          j41 false
        else
         bif decide (y35 = 2) then
          meet (α := Bool) (fun y43 =>
           some y43) fun j44 =>
          bif decide (y33 = 1) then
           bif decide (y34 = 1) then
            bnd (c_parquetlaw04_known) fun r45 =>
            j44 r45
           else
            j44 false
          else
           j44 false
         else
          bif decide (y35 = 4) then
           meet (α := Bool) (fun y46 =>
            some y46) fun j47 =>
           bif decide (y33 ≥ 2) then
            bif decide (y33 = 4) then
             bnd (c_parquetlaw04_known) fun r48 =>
             j47 r48
            else
             bif decide (y34 > 0) then
              bnd (c_parquetlaw04_known) fun r49 =>
              j47 r49
             else
              j47 false
           else
            j47 false
          else
           some false) fun j50 =>
      bif decide (x13 = 0) then
       j50 (x14, x17, x13, true)
      else
       j50 (x14, x17, x13, decide (x13 = 3))) k (r0.1, 0, [r4, r5, r6, r7], [r8, r9, r10, r11], 0, 0)
theorem eq_parquetlaw04_MeetEnds (k : Nat) (c_meet_Segs : (Int × Int) → (Int × Int) → (Int × Int) → (Int × Int) → Option (Int × Int)) (c_parquetlaw04_known : Option Bool) (c_meet_On : (Int × Int) → (Int × Int) → (Int × Int) → Option Bool) (c_meet_Inside : (Int × Int) → (Int × Int) → (Int × Int) → Option Bool) (a0 : (Int × Int)) (a1 : (Int × Int)) (a2 : (Int × Int)) (a3 : (Int × Int)) : textF [⟨10, [.d (.pair kI kI), .d (.pair kI kI), .d (.pair kI kI), .d (.pair kI kI)], [kI, kI], fun x => c_meet_Segs (x.1) (x.2.1) (x.2.2.1) (x.2.2.2)⟩, ⟨12, [], [.bool], fun x => c_parquetlaw04_known⟩, ⟨13, [.d (.pair kI kI), .d (.pair kI kI), .d (.pair kI kI)], [.bool], fun x => c_meet_On (x.1) (x.2.1) (x.2.2)⟩, ⟨15, [.d (.pair kI kI), .d (.pair kI kI), .d (.pair kI kI)], [.bool], fun x => c_meet_Inside (x.1) (x.2.1) (x.2.2)⟩] tb k Try.f5 an_parquetlaw04_MeetEnds [.d (.pair kI kI), .d (.pair kI kI), .d (.pair kI kI), .d (.pair kI kI)] [.bool] (a0, a1, a2, a3) = b_parquetlaw04_MeetEnds k c_meet_Segs c_parquetlaw04_known c_meet_On c_meet_Inside a0 a1 a2 a3 := by kernel_rfl
def g_parquetlaw04_MeetEnds (k : Nat) (a0 : (Int × Int)) (a1 : (Int × Int)) (a2 : (Int × Int)) (a3 : (Int × Int)) : Option Bool := b_parquetlaw04_MeetEnds k (g_meet_Segs k) (g_parquetlaw04_known k) (g_meet_On k) (g_meet_Inside k) a0 a1 a2 a3
theorem tells_parquetlaw04_MeetEnds (k : Nat) : TellsF Try.prog 5 [.d (.pair kI kI), .d (.pair kI kI), .d (.pair kI kI), .d (.pair kI kI)] [.bool] (fun x => g_parquetlaw04_MeetEnds k (x.1) (x.2.1) (x.2.2.1) (x.2.2.2)) := fun x y h => fun_tells tb_ok mix (es := [⟨10, [.d (.pair kI kI), .d (.pair kI kI), .d (.pair kI kI), .d (.pair kI kI)], [kI, kI], fun x => g_meet_Segs k (x.1) (x.2.1) (x.2.2.1) (x.2.2.2)⟩, ⟨12, [], [.bool], fun x => g_parquetlaw04_known k⟩, ⟨13, [.d (.pair kI kI), .d (.pair kI kI), .d (.pair kI kI)], [.bool], fun x => g_meet_On k (x.1) (x.2.1) (x.2.2)⟩, ⟨15, [.d (.pair kI kI), .d (.pair kI kI), .d (.pair kI kI)], [.bool], fun x => g_meet_Inside k (x.1) (x.2.1) (x.2.2)⟩]) (EsOk.cons ⟨rfl, tells_meet_Segs k⟩ (EsOk.cons ⟨rfl, tells_parquetlaw04_known k⟩ (EsOk.cons ⟨rfl, tells_meet_On k⟩ (EsOk.cons ⟨rfl, tells_meet_Inside k⟩ (EsOk.nil _))))) Try.func5 (N := k) (an := an_parquetlaw04_MeetEnds) (by kernel_rfl) x y ((eq_parquetlaw04_MeetEnds k (g_meet_Segs k) (g_parquetlaw04_known k) (g_meet_On k) (g_meet_Inside k) (x.1) (x.2.1) (x.2.2.1) (x.2.2.2)).trans h)

def an_parquetlaw04_MeetParts : Ann := .node none none .leaf (.node none none .leaf (.node none none .leaf (.node none none .leaf (.node none none (.node none none (.node (some [(5, .box [.d (.pair kI kI)]), (6, .box [.d (.pair kI kI)]), (7, .box [.d (.pair kI kI)]), (8, .box [.d (.pair kI kI)]), (9, .box [.d (.pair kI kI)]), (57, .d .bool)]) none .leaf .leaf) .leaf) (.node none none .leaf (.node none none .leaf (.node none none .leaf (.node none none .leaf (.node none none (.node none none .leaf (.node none none (.node none none (.node (some [(10, .d .bool)]) none .leaf .leaf) .leaf) .leaf)) (.node none none (.node none none .leaf (.node none none (.node none none (.node (some [(17, .d kI), (19, .d kI), (21, .d .bool)]) none .leaf .leaf) (.node none none (.node (some [(10, .d .bool)]) none .leaf .leaf) .leaf)) .leaf)) (.node none none (.node (some [(10, .d .bool)]) none .leaf .leaf) .leaf)))))))))))
def b_parquetlaw04_MeetParts (k : Nat) (c_meet_Inside : (Int × Int) → (Int × Int) → (Int × Int) → Option Bool) (c_parquetlaw04_known : Option Bool) (c_meet_Segs : (Int × Int) → (Int × Int) → (Int × Int) → (Int × Int) → Option (Int × Int)) (a0 : (Int × Int)) (a1 : (Int × Int)) (a2 : (Int × Int)) (a3 : (Int × Int)) (a4 : (Int × Int)) : Option Bool :=
  bnd (c_meet_Inside (a0.1, a0.2) (a1.1, a1.2) (a2.1, a2.2)) fun r0 =>
   bif !r0 then
    bnd (c_parquetlaw04_known) fun r1 =>
    some r1
   else
    bnd (c_meet_Segs (a0.1, a0.2) (a1.1, a1.2) (a0.1, a0.2) (a2.1, a2.2)) fun r2 =>
    bnd (c_meet_Segs (a0.1, a0.2) (a2.1, a2.2) (a2.1, a2.2) (a1.1, a1.2)) fun r3 =>
    meet (α := ((Int × Int) × ((Int × Int) × ((Int × Int) × ((Int × Int) × ((Int × Int) × Bool)))))) (fun (y4, y5, y6, y7, y8, y9) =>
     bif y9 then
      some false
     else
      bnd (c_meet_Segs (y4.1, y4.2) (y5.1, y5.2) (y7.1, y7.2) (y8.1, y8.2)) fun r10 =>
      bif !(decide (r10.2 = 0)) then
       bnd (c_parquetlaw04_known) fun r11 =>
       some r11
      else
       bnd (c_meet_Segs (y4.1, y4.2) (y6.1, y6.2) (y7.1, y7.2) (y8.1, y8.2)) fun r12 =>
       bnd (c_meet_Segs (y6.1, y6.2) (y5.1, y5.2) (y7.1, y7.2) (y8.1, y8.2)) fun r13 =>
       bif decide (r10.1 = 0) then
        meet (α := Bool) (fun y14 =>
         some y14) fun j15 =>
        bif decide (r12.1 = 0) then
         bif decide (r13.1 = 0) then
          bnd (c_parquetlaw04_known) fun r16 =>
          j15 r16
         else
          j15 false
        else
         j15 false
       else
        bif decide (r10.1 = 3) then
         meet (α := (Int × (Int × Bool))) (fun (y17, y18, y19) =>
          meet (α := Bool) (fun y20 =>
           some y20) fun j21 =>
          bif y19 then
           bnd (c_parquetlaw04_known) fun r22 =>
           j21 r22
          else
           bif decide (y17 = 2) then
            bif decide (y18 = 2) then
             bnd (c_parquetlaw04_known) fun r23 =>
             j21 r23
            else
             j21 false
           else
            j21 false) fun j24 =>
         bif decide (r12.1 = 3) then
          bif decide (r13.1 = 0) then
           j24 (r12.1, r13.1, true)
          else
           bif decide (r12.1 = 0) then
            j24 (r12.1, r13.1, decide (r13.1 = 3))
           else
            j24 (r12.1, r13.1, false)
         else
          bif decide (r12.1 = 0) then
           j24 (r12.1, r13.1, decide (r13.1 = 3))
          else
           j24 (r12.1, r13.1, false)
        else
         meet (α := Bool) (fun y25 =>
          some y25) fun j26 =>
         bif !(decide (r12.1 = 0)) then
          bnd (c_parquetlaw04_known) fun r27 =>
          j26 r27
         else
          bif !(decide (r13.1 = 0)) then
           bnd (c_parquetlaw04_known) fun r28 =>
           j26 r28
          else
           j26 false) fun j29 =>
    bif !(decide (r2.2 = 0)) then
     j29 ((a0.1, a0.2), (a1.1, a1.2), (a2.1, a2.2), (a3.1, a3.2), (a4.1, a4.2), true)
    else
     bif !(decide (r3.2 = 0)) then
      j29 ((a0.1, a0.2), (a1.1, a1.2), (a2.1, a2.2), (a3.1, a3.2), (a4.1, a4.2), true)
     else
      bif !(decide (r2.1 = 4)) then
       j29 ((a0.1, a0.2), (a1.1, a1.2), (a2.1, a2.2), (a3.1, a3.2), (a4.1, a4.2), true)
      else
       j29 ((a0.1, a0.2), (a1.1, a1.2), (a2.1, a2.2), (a3.1, a3.2), (a4.1, a4.2), !(decide (r3.1 = 1)))
theorem eq_parquetlaw04_MeetParts (k : Nat) (c_meet_Inside : (Int × Int) → (Int × Int) → (Int × Int) → Option Bool) (c_parquetlaw04_known : Option Bool) (c_meet_Segs : (Int × Int) → (Int × Int) → (Int × Int) → (Int × Int) → Option (Int × Int)) (a0 : (Int × Int)) (a1 : (Int × Int)) (a2 : (Int × Int)) (a3 : (Int × Int)) (a4 : (Int × Int)) : textF [⟨15, [.d (.pair kI kI), .d (.pair kI kI), .d (.pair kI kI)], [.bool], fun x => c_meet_Inside (x.1) (x.2.1) (x.2.2)⟩, ⟨12, [], [.bool], fun x => c_parquetlaw04_known⟩, ⟨10, [.d (.pair kI kI), .d (.pair kI kI), .d (.pair kI kI), .d (.pair kI kI)], [kI, kI], fun x => c_meet_Segs (x.1) (x.2.1) (x.2.2.1) (x.2.2.2)⟩] tb k Try.f6 an_parquetlaw04_MeetParts [.d (.pair kI kI), .d (.pair kI kI), .d (.pair kI kI), .d (.pair kI kI), .d (.pair kI kI)] [.bool] (a0, a1, a2, a3, a4) = b_parquetlaw04_MeetParts k c_meet_Inside c_parquetlaw04_known c_meet_Segs a0 a1 a2 a3 a4 := by kernel_rfl
def g_parquetlaw04_MeetParts (k : Nat) (a0 : (Int × Int)) (a1 : (Int × Int)) (a2 : (Int × Int)) (a3 : (Int × Int)) (a4 : (Int × Int)) : Option Bool := b_parquetlaw04_MeetParts k (g_meet_Inside k) (g_parquetlaw04_known k) (g_meet_Segs k) a0 a1 a2 a3 a4
theorem tells_parquetlaw04_MeetParts (k : Nat) : TellsF Try.prog 6 [.d (.pair kI kI), .d (.pair kI kI), .d (.pair kI kI), .d (.pair kI kI), .d (.pair kI kI)] [.bool] (fun x => g_parquetlaw04_MeetParts k (x.1) (x.2.1) (x.2.2.1) (x.2.2.2.1) (x.2.2.2.2)) := fun x y h => fun_tells tb_ok mix (es := [⟨15, [.d (.pair kI kI), .d (.pair kI kI), .d (.pair kI kI)], [.bool], fun x => g_meet_Inside k (x.1) (x.2.1) (x.2.2)⟩, ⟨12, [], [.bool], fun x => g_parquetlaw04_known k⟩, ⟨10, [.d (.pair kI kI), .d (.pair kI kI), .d (.pair kI kI), .d (.pair kI kI)], [kI, kI], fun x => g_meet_Segs k (x.1) (x.2.1) (x.2.2.1) (x.2.2.2)⟩]) (EsOk.cons ⟨rfl, tells_meet_Inside k⟩ (EsOk.cons ⟨rfl, tells_parquetlaw04_known k⟩ (EsOk.cons ⟨rfl, tells_meet_Segs k⟩ (EsOk.nil _)))) Try.func6 (N := k) (an := an_parquetlaw04_MeetParts) (by kernel_rfl) x y ((eq_parquetlaw04_MeetParts k (g_meet_Inside k) (g_parquetlaw04_known k) (g_meet_Segs k) (x.1) (x.2.1) (x.2.2.1) (x.2.2.2.1) (x.2.2.2.2)).trans h)

def an_parquetlaw04_MeetMoved : Ann := .node none none .leaf (.node none none .leaf (.node none none (.node none none (.node (some [(5, .box [.d (.pair kI kI)]), (6, .box [.d (.pair kI kI)]), (7, .box [.d (.pair kI kI)]), (8, .box [.d (.pair kI kI)]), (9, .box [.d (.pair kI kI)]), (11, .d kI), (33, .d .bool)]) none .leaf .leaf) .leaf) (.node none none .leaf (.node none none .leaf (.node none none .leaf (.node none none (.node (some [(10, .d .bool)]) none .leaf .leaf) .leaf))))))
def b_parquetlaw04_MeetMoved (k : Nat) (c_meet_Segs : (Int × Int) → (Int × Int) → (Int × Int) → (Int × Int) → Option (Int × Int)) (c_parquetref03_Fits : (Int × Int) → Option Bool) (c_parquetlaw04_known : Option Bool) (c_parquetlaw04_p : Int → Int → Option (Int × Int)) (a0 : (Int × Int)) (a1 : (Int × Int)) (a2 : (Int × Int)) (a3 : (Int × Int)) (a4 : (Int × Int)) : Option Bool :=
  bnd (c_meet_Segs (a0.1, a0.2) (a1.1, a1.2) (a2.1, a2.2) (a3.1, a3.2)) fun r0 =>
   meet (α := ((Int × Int) × ((Int × Int) × ((Int × Int) × ((Int × Int) × ((Int × Int) × (Int × Bool))))))) (fun (y1, y2, y3, y4, y5, y6, y7) =>
    bif y7 then
     bnd (c_parquetlaw04_known) fun r8 =>
     some r8
    else
     bnd (c_parquetlaw04_p (w64 (0 - y1.2)) y1.1) fun r9 =>
     bnd (c_parquetlaw04_p (w64 (0 - y2.2)) y2.1) fun r10 =>
     bnd (c_parquetlaw04_p (w64 (0 - y3.2)) y3.1) fun r11 =>
     bnd (c_parquetlaw04_p (w64 (0 - y4.2)) y4.1) fun r12 =>
     bnd (c_meet_Segs (r9.1, r9.2) (r10.1, r10.2) (r11.1, r11.2) (r12.1, r12.2)) fun r13 =>
     bnd (c_parquetlaw04_p (w64 (0 - y1.1)) y1.2) fun r14 =>
     bnd (c_parquetlaw04_p (w64 (0 - y2.1)) y2.2) fun r15 =>
     bnd (c_parquetlaw04_p (w64 (0 - y3.1)) y3.2) fun r16 =>
     bnd (c_parquetlaw04_p (w64 (0 - y4.1)) y4.2) fun r17 =>
     bnd (c_meet_Segs (r14.1, r14.2) (r15.1, r15.2) (r16.1, r16.2) (r17.1, r17.2)) fun r18 =>
     bnd (c_parquetlaw04_p (w64 (y1.1 + y5.1)) (w64 (y1.2 + y5.2))) fun r19 =>
     bnd (c_parquetlaw04_p (w64 (y2.1 + y5.1)) (w64 (y2.2 + y5.2))) fun r20 =>
     bnd (c_parquetlaw04_p (w64 (y3.1 + y5.1)) (w64 (y3.2 + y5.2))) fun r21 =>
     bnd (c_parquetlaw04_p (w64 (y4.1 + y5.1)) (w64 (y4.2 + y5.2))) fun r22 =>
     bnd (c_meet_Segs (r19.1, r19.2) (r20.1, r20.2) (r21.1, r21.2) (r22.1, r22.2)) fun r23 =>
     meet (α := Bool) (fun y24 =>
      some y24) fun j25 =>
     bif decide (r13.1 = y6) then
      bif decide (r18.1 = y6) then
       bif !(decide (r23.2 = 0)) then
        bnd (c_parquetlaw04_known) fun r26 =>
        j25 r26
       else
        bif decide (r23.1 = y6) then
         bnd (c_parquetlaw04_known) fun r27 =>
         j25 r27
        else
         j25 false
      else
       j25 false
     else
      j25 false) fun j28 =>
   bif !(decide (r0.2 = 0)) then
    j28 ((a0.1, a0.2), (a1.1, a1.2), (a2.1, a2.2), (a3.1, a3.2), (a4.1, a4.2), r0.1, true)
   else
    bnd (c_parquetref03_Fits (a4.1, a4.2)) fun r29 =>
    j28 ((a0.1, a0.2), (a1.1, a1.2), (a2.1, a2.2), (a3.1, a3.2), (a4.1, a4.2), r0.1, !r29)
theorem eq_parquetlaw04_MeetMoved (k : Nat) (c_meet_Segs : (Int × Int) → (Int × Int) → (Int × Int) → (Int × Int) → Option (Int × Int)) (c_parquetref03_Fits : (Int × Int) → Option Bool) (c_parquetlaw04_known : Option Bool) (c_parquetlaw04_p : Int → Int → Option (Int × Int)) (a0 : (Int × Int)) (a1 : (Int × Int)) (a2 : (Int × Int)) (a3 : (Int × Int)) (a4 : (Int × Int)) : textF [⟨10, [.d (.pair kI kI), .d (.pair kI kI), .d (.pair kI kI), .d (.pair kI kI)], [kI, kI], fun x => c_meet_Segs (x.1) (x.2.1) (x.2.2.1) (x.2.2.2)⟩, ⟨17, [.d (.pair kI kI)], [.bool], fun x => c_parquetref03_Fits x⟩, ⟨12, [], [.bool], fun x => c_parquetlaw04_known⟩, ⟨18, [.d kI, .d kI], [.pair kI kI], fun x => c_parquetlaw04_p (x.1) (x.2)⟩] tb k Try.f7 an_parquetlaw04_MeetMoved [.d (.pair kI kI), .d (.pair kI kI), .d (.pair kI kI), .d (.pair kI kI), .d (.pair kI kI)] [.bool] (a0, a1, a2, a3, a4) = b_parquetlaw04_MeetMoved k c_meet_Segs c_parquetref03_Fits c_parquetlaw04_known c_parquetlaw04_p a0 a1 a2 a3 a4 := by kernel_rfl
def g_parquetlaw04_MeetMoved (k : Nat) (a0 : (Int × Int)) (a1 : (Int × Int)) (a2 : (Int × Int)) (a3 : (Int × Int)) (a4 : (Int × Int)) : Option Bool := b_parquetlaw04_MeetMoved k (g_meet_Segs k) (g_parquetref03_Fits k) (g_parquetlaw04_known k) (g_parquetlaw04_p k) a0 a1 a2 a3 a4
theorem tells_parquetlaw04_MeetMoved (k : Nat) : TellsF Try.prog 7 [.d (.pair kI kI), .d (.pair kI kI), .d (.pair kI kI), .d (.pair kI kI), .d (.pair kI kI)] [.bool] (fun x => g_parquetlaw04_MeetMoved k (x.1) (x.2.1) (x.2.2.1) (x.2.2.2.1) (x.2.2.2.2)) := fun x y h => fun_tells tb_ok mix (es := [⟨10, [.d (.pair kI kI), .d (.pair kI kI), .d (.pair kI kI), .d (.pair kI kI)], [kI, kI], fun x => g_meet_Segs k (x.1) (x.2.1) (x.2.2.1) (x.2.2.2)⟩, ⟨17, [.d (.pair kI kI)], [.bool], fun x => g_parquetref03_Fits k x⟩, ⟨12, [], [.bool], fun x => g_parquetlaw04_known k⟩, ⟨18, [.d kI, .d kI], [.pair kI kI], fun x => g_parquetlaw04_p k (x.1) (x.2)⟩]) (EsOk.cons ⟨rfl, tells_meet_Segs k⟩ (EsOk.cons ⟨rfl, tells_parquetref03_Fits k⟩ (EsOk.cons ⟨rfl, tells_parquetlaw04_known k⟩ (EsOk.cons ⟨rfl, tells_parquetlaw04_p k⟩ (EsOk.nil _))))) Try.func7 (N := k) (an := an_parquetlaw04_MeetMoved) (by kernel_rfl) x y ((eq_parquetlaw04_MeetMoved k (g_meet_Segs k) (g_parquetref03_Fits k) (g_parquetlaw04_known k) (g_parquetlaw04_p k) (x.1) (x.2.1) (x.2.2.1) (x.2.2.2.1) (x.2.2.2.2)).trans h)

def an_parquetlaw04_MeetFan : Ann := .node none none .leaf (.node none none .leaf (.node none none (.node none none .leaf (.node none none (.node none none (.node (some [(6, .d .bool)]) none .leaf .leaf) .leaf) .leaf)) (.node none none (.node (some [(7, .d kI), (9, .d .bool)]) none .leaf .leaf) (.node none none .leaf (.node none none (.node none none .leaf (.node (some [(7, .d kI), (10, .d kI)]) none .leaf .leaf)) (.node none none (.node (some [(6, .d .bool)]) none .leaf .leaf) .leaf))))))
def b_parquetlaw04_MeetFan (k : Nat) (c_meet_Segs : (Int × Int) → (Int × Int) → (Int × Int) → (Int × Int) → Option (Int × Int)) (c_parquetlaw04_known : Option Bool) (c_parquetref03_Orient : (Int × Int) → (Int × Int) → (Int × Int) → Option Int) (c_meet_On : (Int × Int) → (Int × Int) → (Int × Int) → Option Bool) (a0 : (Int × Int)) (a1 : (Int × Int)) (a2 : (Int × Int)) : Option Bool :=
  bnd (c_meet_Segs (a0.1, a0.2) (a1.1, a1.2) (a0.1, a0.2) (a2.1, a2.2)) fun r0 =>
   bif !(decide (r0.2 = 0)) then
    meet (α := Bool) (fun y1 =>
     some y1) fun j2 =>
    bif decide (r0.1 = 0) then
     bif decide (r0.2 = 2) then
      bnd (c_parquetlaw04_known) fun r3 =>
      j2 r3
     else
      j2 false
    else
     j2 false
   else
    meet (α := (Int × Bool)) (fun (y4, y5) =>
     meet (α := (Int × Int)) (fun (y6, y7) =>
      meet (α := Bool) (fun y8 =>
       some y8) fun j9 =>
      bif decide (y6 = y7) then
       bnd (c_parquetlaw04_known) fun r10 =>
       j9 r10
      else
       j9 false) fun j11 =>
     bif y5 then
      j11 (y4, 4)
     else
      j11 (y4, 1)) fun j12 =>
    bnd (c_parquetref03_Orient (a0.1, a0.2) (a1.1, a1.2) (a2.1, a2.2)) fun r13 =>
    bif decide (r13 = 0) then
     bnd (c_meet_On (a0.1, a0.2) (a1.1, a1.2) (a2.1, a2.2)) fun r14 =>
     bif r14 then
      j12 (r0.1, true)
     else
      bnd (c_meet_On (a0.1, a0.2) (a2.1, a2.2) (a1.1, a1.2)) fun r15 =>
      j12 (r0.1, r15)
    else
     j12 (r0.1, false)
theorem eq_parquetlaw04_MeetFan (k : Nat) (c_meet_Segs : (Int × Int) → (Int × Int) → (Int × Int) → (Int × Int) → Option (Int × Int)) (c_parquetlaw04_known : Option Bool) (c_parquetref03_Orient : (Int × Int) → (Int × Int) → (Int × Int) → Option Int) (c_meet_On : (Int × Int) → (Int × Int) → (Int × Int) → Option Bool) (a0 : (Int × Int)) (a1 : (Int × Int)) (a2 : (Int × Int)) : textF [⟨10, [.d (.pair kI kI), .d (.pair kI kI), .d (.pair kI kI), .d (.pair kI kI)], [kI, kI], fun x => c_meet_Segs (x.1) (x.2.1) (x.2.2.1) (x.2.2.2)⟩, ⟨12, [], [.bool], fun x => c_parquetlaw04_known⟩, ⟨19, [.d (.pair kI kI), .d (.pair kI kI), .d (.pair kI kI)], [kI], fun x => c_parquetref03_Orient (x.1) (x.2.1) (x.2.2)⟩, ⟨13, [.d (.pair kI kI), .d (.pair kI kI), .d (.pair kI kI)], [.bool], fun x => c_meet_On (x.1) (x.2.1) (x.2.2)⟩] tb k Try.f8 an_parquetlaw04_MeetFan [.d (.pair kI kI), .d (.pair kI kI), .d (.pair kI kI)] [.bool] (a0, a1, a2) = b_parquetlaw04_MeetFan k c_meet_Segs c_parquetlaw04_known c_parquetref03_Orient c_meet_On a0 a1 a2 := by kernel_rfl
def g_parquetlaw04_MeetFan (k : Nat) (a0 : (Int × Int)) (a1 : (Int × Int)) (a2 : (Int × Int)) : Option Bool := b_parquetlaw04_MeetFan k (g_meet_Segs k) (g_parquetlaw04_known k) (g_parquetref03_Orient k) (g_meet_On k) a0 a1 a2
theorem tells_parquetlaw04_MeetFan (k : Nat) : TellsF Try.prog 8 [.d (.pair kI kI), .d (.pair kI kI), .d (.pair kI kI)] [.bool] (fun x => g_parquetlaw04_MeetFan k (x.1) (x.2.1) (x.2.2)) := fun x y h => fun_tells tb_ok mix (es := [⟨10, [.d (.pair kI kI), .d (.pair kI kI), .d (.pair kI kI), .d (.pair kI kI)], [kI, kI], fun x => g_meet_Segs k (x.1) (x.2.1) (x.2.2.1) (x.2.2.2)⟩, ⟨12, [], [.bool], fun x => g_parquetlaw04_known k⟩, ⟨19, [.d (.pair kI kI), .d (.pair kI kI), .d (.pair kI kI)], [kI], fun x => g_parquetref03_Orient k (x.1) (x.2.1) (x.2.2)⟩, ⟨13, [.d (.pair kI kI), .d (.pair kI kI), .d (.pair kI kI)], [.bool], fun x => g_meet_On k (x.1) (x.2.1) (x.2.2)⟩]) (EsOk.cons ⟨rfl, tells_meet_Segs k⟩ (EsOk.cons ⟨rfl, tells_parquetlaw04_known k⟩ (EsOk.cons ⟨rfl, tells_parquetref03_Orient k⟩ (EsOk.cons ⟨rfl, tells_meet_On k⟩ (EsOk.nil _))))) Try.func8 (N := k) (an := an_parquetlaw04_MeetFan) (by kernel_rfl) x y ((eq_parquetlaw04_MeetFan k (g_meet_Segs k) (g_parquetlaw04_known k) (g_parquetref03_Orient k) (g_meet_On k) (x.1) (x.2.1) (x.2.2)).trans h)

def an_meet_First : Ann := .node none none .leaf (.node none none (.node none none .leaf (.node none none (.node none (some [(0, .d (.sl (.pair (.pair kI kI) (.pair kI kI)))), (12, .d (.sl (.pair (.pair kI kI) (.pair kI kI)))), (13, .d kI), (14, .d kI)]) (.node none none .leaf (.node none none .leaf (.node none none (.node none none (.node none none .leaf (.node none none (.node (some [(0, .d (.sl (.pair (.pair kI kI) (.pair kI kI)))), (12, .d (.sl (.pair (.pair kI kI) (.pair kI kI)))), (13, .d kI), (14, .d kI), (29, .d .bool)]) none .leaf .leaf) .leaf)) .leaf) .leaf))) .leaf) .leaf)) (.node none none (.node none none .leaf (.node none none (.node none (some [(0, .d (.sl (.pair (.pair kI kI) (.pair kI kI)))), (31, .d (.sl (.pair (.pair kI kI) (.pair kI kI)))), (32, .d kI), (33, .d kI)]) (.node none none .leaf (.node none none .leaf (.node none none (.node none none (.node none none .leaf (.node none none .leaf (.node none none (.node none (some [(0, .d (.sl (.pair (.pair kI kI) (.pair kI kI)))), (7, .d kI), (8, .box [.d (.pair (.pair kI kI) (.pair kI kI))]), (9, .d kI), (31, .d (.sl (.pair (.pair kI kI) (.pair kI kI)))), (32, .d kI), (33, .d kI)]) .leaf .leaf) .leaf))) .leaf) .leaf))) .leaf) .leaf)) .leaf))
def b_meet_First (k : Nat) (c_pred_Fits : (List (Int × Int)) → Option Bool) (c_meet_Segs : (Int × Int) → (Int × Int) → (Int × Int) → (Int × Int) → Option (Int × Int)) (a0 : (List ((Int × Int) × (Int × Int)))) : Option (Int × Int × Bool) :=
  loopN (α := ((List ((Int × Int) × (Int × Int))) × ((List ((Int × Int) × (Int × Int))) × (Int × Int)))) (fun (x1, x2, x3, x4) next0 =>
    bif decide (x4 < x3) then
     gd (inb x4 x2.length) <|
     meet (α := ((List ((Int × Int) × (Int × Int))) × ((List ((Int × Int) × (Int × Int))) × (Int × (Int × Bool))))) (fun (y5, y6, y7, y8, y9) =>
      bif y9 then
       some (0, 0, false)
      else
       next0 (y5, y6, y7, w64 (y8 + 1))) fun j10 =>
     bnd (c_pred_Fits [((rdD ((0, 0), 0, 0) x2 x4).1.1, (rdD ((0, 0), 0, 0) x2 x4).1.2), ((rdD ((0, 0), 0, 0) x2 x4).2.1, (rdD ((0, 0), 0, 0) x2 x4).2.2)]) fun r11 =>
     bif !r11 then
      j10 (x1, x2, x3, x4, true)
     else
      j10 (x1, x2, x3, x4, (decide ((rdD ((0, 0), 0, 0) x2 x4).1.1 = (rdD ((0, 0), 0, 0) x2 x4).1.1)) && ((decide ((rdD ((0, 0), 0, 0) x2 x4).1.2 = (rdD ((0, 0), 0, 0) x2 x4).1.2)) && ((decide ((rdD ((0, 0), 0, 0) x2 x4).2.1 = (rdD ((0, 0), 0, 0) x2 x4).1.1)) && (decide ((rdD ((0, 0), 0, 0) x2 x4).2.2 = (rdD ((0, 0), 0, 0) x2 x4).1.2)))))
    else
     loopN (α := ((List ((Int × Int) × (Int × Int))) × ((List ((Int × Int) × (Int × Int))) × (Int × Int)))) (fun (x13, x14, x15, x16) next12 =>
      bif decide (x16 < x15) then
       gd (inb x16 x14.length) <|
       loopN (α := ((List ((Int × Int) × (Int × Int))) × (Int × (((Int × Int) × (Int × Int)) × (Int × ((List ((Int × Int) × (Int × Int))) × (Int × Int))))))) (fun (x18, x19, x20, x21, x22, x23, x24) next17 =>
        bif decide (x21 < (x18.length : Int)) then
         gd (inb x21 x18.length) <|
         gd (inb x21 x18.length) <|
         bnd (c_meet_Segs (x20.1.1, x20.1.2) (x20.2.1, x20.2.2) ((rdD ((0, 0), 0, 0) x18 x21).1.1, (rdD ((0, 0), 0, 0) x18 x21).1.2) ((rdD ((0, 0), 0, 0) x18 x21).2.1, (rdD ((0, 0), 0, 0) x18 x21).2.2)) fun r25 =>
         bif decide (r25.1 > 1) then
          some (x19, x21, true)
         else
          next17 (x18, x19, ((x20.1.1, x20.1.2), x20.2.1, x20.2.2), w64 (x21 + 1), x22, x23, x24)
        else
         next12 (x18, x22, x23, w64 (x24 + 1))) k (x13, x16, (((rdD ((0, 0), 0, 0) x14 x16).1.1, (rdD ((0, 0), 0, 0) x14 x16).1.2), (rdD ((0, 0), 0, 0) x14 x16).2.1, (rdD ((0, 0), 0, 0) x14 x16).2.2), w64 (x16 + 1), x14, x15, x16)
      else
       some (0, 0, false)) k (x1, x1, (x1.length : Int), 0)) k (a0, a0, (a0.length : Int), 0)
theorem eq_meet_First (k : Nat) (c_pred_Fits : (List (Int × Int)) → Option Bool) (c_meet_Segs : (Int × Int) → (Int × Int) → (Int × Int) → (Int × Int) → Option (Int × Int)) (a0 : (List ((Int × Int) × (Int × Int)))) : textF [⟨21, [.d (.sl (.pair kI kI))], [.bool], fun x => c_pred_Fits x⟩, ⟨10, [.d (.pair kI kI), .d (.pair kI kI), .d (.pair kI kI), .d (.pair kI kI)], [kI, kI], fun x => c_meet_Segs (x.1) (x.2.1) (x.2.2.1) (x.2.2.2)⟩] tb k Try.f20 an_meet_First [.d (.sl (.pair (.pair kI kI) (.pair kI kI)))] [kI, kI, .bool] a0 = b_meet_First k c_pred_Fits c_meet_Segs a0 := by kernel_rfl
def g_meet_First (k : Nat) (a0 : (List ((Int × Int) × (Int × Int)))) : Option (Int × Int × Bool) := b_meet_First k (g_pred_Fits k) (g_meet_Segs k) a0
theorem tells_meet_First (k : Nat) : TellsF Try.prog 20 [.d (.sl (.pair (.pair kI kI) (.pair kI kI)))] [kI, kI, .bool] (fun x => g_meet_First k x) := fun x y h => fun_tells tb_ok mix (es := [⟨21, [.d (.sl (.pair kI kI))], [.bool], fun x => g_pred_Fits k x⟩, ⟨10, [.d (.pair kI kI), .d (.pair kI kI), .d (.pair kI kI), .d (.pair kI kI)], [kI, kI], fun x => g_meet_Segs k (x.1) (x.2.1) (x.2.2.1) (x.2.2.2)⟩]) (EsOk.cons ⟨rfl, tells_pred_Fits k⟩ (EsOk.cons ⟨rfl, tells_meet_Segs k⟩ (EsOk.nil _))) Try.func20 (N := k) (an := an_meet_First) (by kernel_rfl) x y ((eq_meet_First k (g_pred_Fits k) (g_meet_Segs k) x).trans h)

def an_parquetlaw04_MeetFirsts : Ann := .node none none .leaf (.node none none .leaf (.node none none .leaf (.node none none .leaf (.node none none .leaf (.node none none .leaf (.node none none .leaf (.node none none .leaf (.node none none (.node none none .leaf (.node none none (.node none (some [(0, .d (.sl (.pair (.pair kI kI) (.pair kI kI)))), (3, .row (.pair (.pair kI kI) (.pair kI kI)) 40), (4, .d kI), (5, .d kI), (6, .d .bool), (7, .d kI), (8, .d kI), (9, .d .bool), (10, .d kI)]) (.node none none (.node none none (.node (some [(0, .d (.sl (.pair (.pair kI kI) (.pair kI kI)))), (3, .row (.pair (.pair kI kI) (.pair kI kI)) 40), (4, .d kI), (5, .d kI), (6, .d .bool), (7, .d kI), (8, .d kI), (9, .d .bool), (10, .d kI), (35, .d .bool)]) none .leaf .leaf) .leaf) (.node none none (.node none none (.node none none .leaf (.node none none (.node none (some [(0, .d (.sl (.pair (.pair kI kI) (.pair kI kI)))), (3, .row (.pair (.pair kI kI) (.pair kI kI)) 40), (4, .d kI), (5, .d kI), (6, .d .bool), (7, .d kI), (8, .d kI), (9, .d .bool), (10, .d kI), (11, .d kI)]) (.node none none (.node none none (.node (some [(0, .d (.sl (.pair (.pair kI kI) (.pair kI kI)))), (3, .row (.pair (.pair kI kI) (.pair kI kI)) 40), (4, .d kI), (5, .d kI), (6, .d .bool), (7, .d kI), (8, .d kI), (9, .d .bool), (10, .d kI), (11, .d kI), (47, .d .bool)]) none .leaf .leaf) .leaf) (.node none none (.node none none (.node none none .leaf (.node none none .leaf (.node (some [(0, .d (.sl (.pair (.pair kI kI) (.pair kI kI)))), (3, .row (.pair (.pair kI kI) (.pair kI kI)) 40), (4, .d kI), (5, .d kI), (6, .d .bool), (7, .d kI), (8, .d kI), (9, .d .bool), (10, .d kI), (11, .d kI)]) none .leaf .leaf))) .leaf) .leaf)) .leaf) .leaf)) .leaf) .leaf)) .leaf) .leaf)) (.node none none (.node none none .leaf (.node none none (.node none (some [(0, .d (.sl (.pair (.pair kI kI) (.pair kI kI)))), (3, .row (.pair (.pair kI kI) (.pair kI kI)) 40), (4, .d kI), (5, .d kI), (6, .d .bool), (7, .d kI), (8, .d kI), (9, .d .bool), (14, .d kI)]) (.node none none .leaf (.node none none (.node none none (.node none none (.node none none (.node (some [(0, .d (.sl (.pair (.pair kI kI) (.pair kI kI)))), (3, .row (.pair (.pair kI kI) (.pair kI kI)) 40), (4, .d kI), (5, .d kI), (6, .d .bool), (7, .d kI), (8, .d kI), (9, .d .bool), (14, .d kI), (112, .d .bool)]) none .leaf .leaf) (.node (some [(0, .d (.sl (.pair (.pair kI kI) (.pair kI kI)))), (3, .row (.pair (.pair kI kI) (.pair kI kI)) 40), (4, .d kI), (5, .d kI), (6, .d .bool), (7, .d kI), (8, .d kI), (9, .d .bool), (14, .d kI)]) none .leaf .leaf)) .leaf) .leaf) .leaf)) .leaf) .leaf)) (.node none none (.node (some [(2, .d .bool)]) none .leaf .leaf) .leaf))))))))))
def b_parquetlaw04_MeetFirsts (k : Nat) (c_parquetlaw04_known : Option Bool) (c_meet_First : (List ((Int × Int) × (Int × Int))) → Option (Int × Int × Bool)) (c_parquetref04_Segs : (Int × Int) → (Int × Int) → (Int × Int) → (Int × Int) → Option (Int × Int)) (c_parquetref03_Fits : (Int × Int) → Option Bool) (a0 : (List ((Int × Int) × (Int × Int)))) : Option Bool :=
  bif decide ((a0.length : Int) > 40) then
    bnd (c_parquetlaw04_known) fun r0 =>
    some r0
   else
    gd (few a0.length) <|
    bnd (c_meet_First a0) fun r1 =>
    loopN (α := ((List ((Int × Int) × (Int × Int))) × ((List ((Int × Int) × (Int × Int))) × (Int × (Int × (Bool × (Int × (Int × (Bool × Int))))))))) (fun (x3, x4, x5, x6, x7, x8, x9, x10, x11) next2 =>
     meet (α := ((List ((Int × Int) × (Int × Int))) × ((List ((Int × Int) × (Int × Int))) × (Int × (Int × (Bool × (Int × (Int × (Bool × (Int × Bool)))))))))) (fun (y12, y13, y14, y15, y16, y17, y18, y19, y20, y21) =>
      bif y21 then
       loopN (α := ((List ((Int × Int) × (Int × Int))) × ((List ((Int × Int) × (Int × Int))) × (Int × (Int × (Bool × (Int × (Int × (Bool × (Int × Int)))))))))) (fun (x23, x24, x25, x26, x27, x28, x29, x30, x31, x32) next22 =>
        meet (α := ((List ((Int × Int) × (Int × Int))) × ((List ((Int × Int) × (Int × Int))) × (Int × (Int × (Bool × (Int × (Int × (Bool × (Int × (Int × Bool))))))))))) (fun (y33, y34, y35, y36, y37, y38, y39, y40, y41, y42, y43) =>
         bif y43 then
          gd (inb y41 y33.length) <|
          gd (inb y41 y33.length) <|
          gd (inb y42 y33.length) <|
          gd (inb y42 y33.length) <|
          bnd (c_parquetref04_Segs ((rdD ((0, 0), 0, 0) y33 y41).1.1, (rdD ((0, 0), 0, 0) y33 y41).1.2) ((rdD ((0, 0), 0, 0) y33 y41).2.1, (rdD ((0, 0), 0, 0) y33 y41).2.2) ((rdD ((0, 0), 0, 0) y33 y42).1.1, (rdD ((0, 0), 0, 0) y33 y42).1.2) ((rdD ((0, 0), 0, 0) y33 y42).2.1, (rdD ((0, 0), 0, 0) y33 y42).2.2)) fun r44 =>
          meet (α := ((List ((Int × Int) × (Int × Int))) × ((List ((Int × Int) × (Int × Int))) × (Int × (Int × (Bool × (Int × (Int × (Bool × (Int × Int)))))))))) (fun (y45, y46, y47, y48, y49, y50, y51, y52, y53, y54) =>
           next22 (y45, y46, y47, y48, y49, y50, y51, y52, y53, w64 (y54 + 1))) fun j55 =>
          bif decide (r44.1 > 1) then
           j55 (y33, y34, y35, y36, y37, y41, y42, true, y41, y42)
          else
           j55 (y33, y34, y35, y36, y37, y38, y39, y40, y41, y42)
         else
          next2 (y33, y34, y35, y36, y37, y38, y39, y40, w64 (y41 + 1))) fun j56 =>
        bif decide (x32 < (x23.length : Int)) then
         j56 (x23, x24, x25, x26, x27, x28, x29, x30, x31, x32, !x30)
        else
         j56 (x23, x24, x25, x26, x27, x28, x29, x30, x31, x32, false)) k (y12, y13, y14, y15, y16, y17, y18, y19, y20, w64 (y20 + 1))
      else
       loopN (α := ((List ((Int × Int) × (Int × Int))) × ((List ((Int × Int) × (Int × Int))) × (Int × (Int × (Bool × (Int × (Int × (Bool × Int))))))))) (fun (x58, x59, x60, x61, x62, x63, x64, x65, x66) next57 =>
        bif decide (x66 < (x58.length : Int)) then
         meet (α := ((List ((Int × Int) × (Int × Int))) × ((List ((Int × Int) × (Int × Int))) × (Int × (Int × (Bool × (Int × (Int × (Bool × (Int × Bool)))))))))) (fun (y67, y68, y69, y70, y71, y72, y73, y74, y75, y76) =>
          meet (α := ((List ((Int × Int) × (Int × Int))) × ((List ((Int × Int) × (Int × Int))) × (Int × (Int × (Bool × (Int × (Int × (Bool × Int))))))))) (fun (y77, y78, y79, y80, y81, y82, y83, y84, y85) =>
           gd (inb y85 y78.length) <|
           gd (inb y85 y77.length) <|
           bif !((decide ((rdD ((0, 0), 0, 0) y78 y85).1.1 = (rdD ((0, 0), 0, 0) y77 y85).1.1)) && ((decide ((rdD ((0, 0), 0, 0) y78 y85).1.2 = (rdD ((0, 0), 0, 0) y77 y85).1.2)) && ((decide ((rdD ((0, 0), 0, 0) y78 y85).2.1 = (rdD ((0, 0), 0, 0) y77 y85).2.1)) && (decide ((rdD ((0, 0), 0, 0) y78 y85).2.2 = (rdD ((0, 0), 0, 0) y77 y85).2.2))))) then
            some false
           else
            next57 (y77, y78, y79, y80, y81, y82, y83, y84, w64 (y85 + 1))) fun j86 =>
          bif y76 then
           j86 (y67, y68, y69, y70, y71, 0, 0, false, y75)
          else
           j86 (y67, y68, y69, y70, y71, y72, y73, y74, y75)) fun j87 =>
         gd (inb x66 x58.length) <|
         gd (inb x66 x58.length) <|
         bif (decide ((rdD ((0, 0), 0, 0) x58 x66).1.1 = (rdD ((0, 0), 0, 0) x58 x66).2.1)) && (decide ((rdD ((0, 0), 0, 0) x58 x66).1.2 = (rdD ((0, 0), 0, 0) x58 x66).2.2)) then
          j87 (x58, x59, x60, x61, x62, x63, x64, x65, x66, true)
         else
          gd (inb x66 x58.length) <|
          bnd (c_parquetref03_Fits ((rdD ((0, 0), 0, 0) x58 x66).1.1, (rdD ((0, 0), 0, 0) x58 x66).1.2)) fun r88 =>
          bif !r88 then
           j87 (x58, x59, x60, x61, x62, x63, x64, x65, x66, true)
          else
           gd (inb x66 x58.length) <|
           bnd (c_parquetref03_Fits ((rdD ((0, 0), 0, 0) x58 x66).2.1, (rdD ((0, 0), 0, 0) x58 x66).2.2)) fun r89 =>
           j87 (x58, x59, x60, x61, x62, x63, x64, x65, x66, !r89)
        else
         meet (α := Bool) (fun y90 =>
          some y90) fun j91 =>
         bif decide (x60 = x63) then
          bif decide (x61 = x64) then
           bif x62 == x65 then
            bnd (c_parquetlaw04_known) fun r92 =>
            j91 r92
           else
            j91 false
          else
           j91 false
         else
          j91 false) k (y12, y13, y14, y15, y16, y17, y18, y19, 0)) fun j93 =>
     bif decide (x11 < (x3.length : Int)) then
      j93 (x3, x4, x5, x6, x7, x8, x9, x10, x11, !x10)
     else
      j93 (x3, x4, x5, x6, x7, x8, x9, x10, x11, false)) k (a0, a0, r1.1, r1.2.1, r1.2.2, 0, 0, false, 0)
theorem eq_parquetlaw04_MeetFirsts (k : Nat) (c_parquetlaw04_known : Option Bool) (c_meet_First : (List ((Int × Int) × (Int × Int))) → Option (Int × Int × Bool)) (c_parquetref04_Segs : (Int × Int) → (Int × Int) → (Int × Int) → (Int × Int) → Option (Int × Int)) (c_parquetref03_Fits : (Int × Int) → Option Bool) (a0 : (List ((Int × Int) × (Int × Int)))) : textF [⟨12, [], [.bool], fun x => c_parquetlaw04_known⟩, ⟨20, [.d (.sl (.pair (.pair kI kI) (.pair kI kI)))], [kI, kI, .bool], fun x => c_meet_First x⟩, ⟨11, [.d (.pair kI kI), .d (.pair kI kI), .d (.pair kI kI), .d (.pair kI kI)], [kI, kI], fun x => c_parquetref04_Segs (x.1) (x.2.1) (x.2.2.1) (x.2.2.2)⟩, ⟨17, [.d (.pair kI kI)], [.bool], fun x => c_parquetref03_Fits x⟩] tb k Try.f9 an_parquetlaw04_MeetFirsts [.d (.sl (.pair (.pair kI kI) (.pair kI kI)))] [.bool] a0 = b_parquetlaw04_MeetFirsts k c_parquetlaw04_known c_meet_First c_parquetref04_Segs c_parquetref03_Fits a0 := by kernel_rfl
def g_parquetlaw04_MeetFirsts (k : Nat) (a0 : (List ((Int × Int) × (Int × Int)))) : Option Bool := b_parquetlaw04_MeetFirsts k (g_parquetlaw04_known k) (g_meet_First k) (g_parquetref04_Segs k) (g_parquetref03_Fits k) a0
theorem tells_parquetlaw04_MeetFirsts (k : Nat) : TellsF Try.prog 9 [.d (.sl (.pair (.pair kI kI) (.pair kI kI)))] [.bool] (fun x => g_parquetlaw04_MeetFirsts k x) := fun x y h => fun_tells tb_ok mix (es := [⟨12, [], [.bool], fun x => g_parquetlaw04_known k⟩, ⟨20, [.d (.sl (.pair (.pair kI kI) (.pair kI kI)))], [kI, kI, .bool], fun x => g_meet_First k x⟩, ⟨11, [.d (.pair kI kI), .d (.pair kI kI), .d (.pair kI kI), .d (.pair kI kI)], [kI, kI], fun x => g_parquetref04_Segs k (x.1) (x.2.1) (x.2.2.1) (x.2.2.2)⟩, ⟨17, [.d (.pair kI kI)], [.bool], fun x => g_parquetref03_Fits k x⟩]) (EsOk.cons ⟨rfl, tells_parquetlaw04_known k⟩ (EsOk.cons ⟨rfl, tells_meet_First k⟩ (EsOk.cons ⟨rfl, tells_parquetref04_Segs k⟩ (EsOk.cons ⟨rfl, tells_parquetref03_Fits k⟩ (EsOk.nil _))))) Try.func9 (N := k) (an := an_parquetlaw04_MeetFirsts) (by kernel_rfl) x y ((eq_parquetlaw04_MeetFirsts k (g_parquetlaw04_known k) (g_meet_First k) (g_parquetref04_Segs k) (g_parquetref03_Fits k) x).trans h)

end Go.Proofs.Ytebokfdiamepcaa.AM
