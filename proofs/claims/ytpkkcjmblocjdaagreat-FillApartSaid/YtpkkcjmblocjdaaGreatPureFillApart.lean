/- The plain law of FillApart. -/
import Derived.Test.YtpkkcjmblocjdaaGreatT18
set_option linter.unusedVariables false
set_option linter.unusedSimpArgs false
set_option linter.unusedSectionVars false
namespace Go.Proofs.YtpkkcjmblocjdaaGreat.Pure
open Go.RowKit Go.Proofs.YtpkkcjmblocjdaaGreat.AM PL
set_option maxHeartbeats 4000000 in
theorem zrQ (m : Nat) (p : zO) : Zk (m + 1000) p = some true := by
 unfold Zk Qx
 have kn : (bnd (jH (m + 1000)) fun r5 => some r5) = some true := by rw [zuK, zr]
 obtain ⟨bm, hm1, hm2⟩ := zuS (m + 1000) p
 rw [show jk (m + 1000) (p.1, p.2.1, p.2.2) = _ from hm1]
 rw [show ∀ (A B : _), zy A B = B A from fun _ _ => rfl, zr]
 cases bm with
 | true => exact kn
 | false =>
  rw [cF]
  by_cases hn : (p.1.length : Int) > 16
  ·rw [zk hn]; exact kn
  rw [zg hn]
  rcases zxh (hm2 rfl) with hb | h
  ·rw [show qz (m + 1000) (p.1, p.2.1, p.2.2) = _ from zoU m hb, zr]
   exact kn
  ·rw [show qz (m + 1000) (p.1, p.2.1, p.2.2) = _ from zsQ m h.sm, zr]
   cases hg : zcc p with
   | false => exact kn
   | true =>
    have R := (ziu h.sm hg).rt
    have he := zm9 m h
    have hk := zmh m h
    rw [if_pos hg] at he hk
    have hs := zoC R
    have hl := zl5 R
    have hq := zlt p
    have hs' : p.1.length * p.1.length ≤ 256 := Nat.mul_le_mul (show p.1.length ≤ 16 by omega) (show p.1.length ≤ 16 by omega)
    have hS : (jg p).length ≤ 200 := by
     have := h.l; have := h.i
     rw [hq]
     show (p.2.1 ++ p.2.2).length ≤ 200
     rw [List.length_append]; omega
    have hck : jG (m + 1000) (p.1, qJ p, jg p) = some 0 := by
     rw [zsr m (p.1, qJ p, jg p) (by dsimp only; omega) (by dsimp only; omega) (by dsimp only; omega), ← zup, zwd R]
    have hfa := ztz m (qJ p) (by omega)
    have hed : jD (m + 1000) ((qJ p).map zfZ) = some (qO p) := by
     rw [zpz m _ (by rw [List.length_map]; omega) (fun c hc => by
      obtain ⟨t, _, rfl⟩ := List.mem_map.1 hc
      show 3 ≤ 900
      decide) (by rw [zjQ, zj9]; omega) (ztt R (by omega)), zrZ R]
    rw [Bool.not_true]
    dsimp only
    rw [cF, show ZL (m + 1000) (p.1, p.2.1, p.2.2) = _ from hk, zr, show js (m + 1000) (p.1, p.2.1, p.2.2) = _ from he, zr]
    rw [show ∀ (A B : _), zy A B = B A from fun _ _ => rfl]
    dsimp only
    rw [Ji rfl, Ji rfl, zuF m _ (by omega), zr, Bool.not_true, cF, hck, zr, decide_eq_true rfl, Bool.not_true, cF, hfa, zr, hed, zr, zqL m _ (by omega), zr, Bool.not_true, cF]
    have J := Yf R.fine
    refine Zs (fun i => (p, (p.1, qJ p, jg p), qO p, (i : Int))) (qO p).length rfl (fun next => ?_) (fun i hi next hnx => ?_) _ (by omega)
    ·dsimp only
     rw [zg (by omega)]
     refine Zs (fun i => (p, (p.1, qJ p, jg p), (i : Int))) (qJ p).length rfl (fun next => ?_) (fun i hi next hnx => ?_) _ (by omega)
     ·dsimp only
      rw [zg (by omega)]
      exact kn
     ·dsimp only
      rw [zk (by omega)]
      refine Zs (fun k => (p, (p.1, qJ p, jg p), (i : Int), (k : Int))) p.1.length rfl (fun nx => ?_) (fun k hk nx hn' => ?_) _ (by omega)
      ·dsimp only
       rw [zg (by omega), zn (x := (i : Int) + 1) (by omega) (by omega), ← hnx]
       rfl
      ·dsimp only
       have hin : inb (i : Int) (qJ p).length = true := zA ⟨by omega, by omega⟩
       have hkn : inb (k : Int) p.1.length = true := zA ⟨by omega, by omega⟩
       have hr : inr (k : Int) p.1.length := ⟨by omega, by omega⟩
       obtain ⟨_, g⟩ := (zcx R _).1 (List.getElem_mem hi)
       have ep : ∀ i : Int, ((rdD (0, 0) p.1 i).1, (rdD (0, 0) p.1 i).2) = pt p.1 i := fun _ => rfl
       have no := zvb R (List.getElem_mem hi) hr
       simp only [zy, hin, hkn, gT, qg _ (qJ p) i hi, ep]
       rw [zk (by omega)]
       generalize (qJ p)[i] = t at *
       rw [zn (x := (k : Int) + 1) (by omega) (by omega)]
       by_cases c1 : (k : Int) = t.1
       ·rw [Ji c1]; exact hn'
       rw [Y5 c1]
       by_cases c2 : (k : Int) = t.2.1
       ·rw [Ji c2]; exact hn'
       rw [Y5 c2]
       by_cases c3 : (k : Int) = t.2.2
       ·rw [Ji c3]; exact hn'
       rw [Y5 c3, show Zq (m + 1000) p.1 (t.1, t.2.1, t.2.2) _ = _ from zyQ m (t := t) ⟨g.T.r.1, g.T.r.2.1, g.T.r.2.2⟩ _, zr, no c1 c2 c3, cF]
       exact hn'
    ·dsimp only
     rw [zk (by omega)]
     refine Zs (fun k => (p, (p.1, qJ p, jg p), qO p, (i : Int), (k : Int))) i rfl (fun nx => ?_) (fun k hk nx hn' => ?_) _ (by omega)
     ·dsimp only
      rw [zg (by omega), zn (x := (i : Int) + 1) (by omega) (by omega), ← hnx]
      rfl
     ·dsimp only
      have hki : k < (qO p).length := by omega
      have hin : inb (i : Int) (qO p).length = true := zA ⟨by omega, by omega⟩
      have hkn : inb (k : Int) (qO p).length = true := zA ⟨by omega, by omega⟩
      obtain ⟨⟨a1, a2⟩, a3, a4⟩ := (J.ok _ ((jf p _).1 (List.getElem_mem hi))).1
      obtain ⟨⟨b1, b2⟩, b3, b4⟩ := (J.ok _ ((jf p _).1 (List.getElem_mem hki))).1
      have ep : ∀ i : Int, ((rdD (0, 0) p.1 i).1, (rdD (0, 0) p.1 i).2) = pt p.1 i := fun _ => rfl
      have ap := zss R hk hi
      have nb : ∀ s : Pt, s ∈ edg p → pt p.1 s.1 ≠ pt p.1 s.2 := fun s hs e => by
       obtain ⟨⟨r1, r2⟩, hlt⟩ := J.ok s hs
       have := R.fine.distI r1 r2 e
       omega
      have nbad : ¬ Bad (pt p.1 (qO p)[i].1) (pt p.1 (qO p)[i].2) (pt p.1 (qO p)[k].1) (pt p.1 (qO p)[k].2) := by
       rintro (h | h | h)
       ·exact nb _ ((jf p _).1 (List.getElem_mem hi)) h
       ·exact nb _ ((jf p _).1 (List.getElem_mem hki)) h
       ·exact h ⟨R.fine.sm.fit ⟨a1, a2⟩, R.fine.sm.fit ⟨a3, a4⟩, R.fine.sm.fit ⟨b1, b2⟩, R.fine.sm.fit ⟨b3, b4⟩⟩
      have e2 : (Qm (pt p.1 (qO p)[i].1) (pt p.1 (qO p)[i].2) (pt p.1 (qO p)[k].1) (pt p.1 (qO p)[k].2)).2 = 0 := by
       unfold Qm
       rw [if_neg nbad]
      simp only [zy, hin, hkn, gT, qg _ (qO p) i hi, qg _ (qO p) k hki, ep]
      rw [zk (by omega)]
      generalize (qO p)[i] = s at *
      generalize (qO p)[k] = q at *
      rw [zA ⟨a1, a2⟩, zA ⟨a3, a4⟩, zA ⟨b1, b2⟩, zA ⟨b3, b4⟩, gT, gT, gT, gT, zyw, zr, e2, Ji rfl, decide_eq_false (by omega), cF, zn (x := (k : Int) + 1) (by omega) (by omega)]
      exact hn'
theorem zrW (x0 : ((List (Int × Int)) × ((List (Int × Int)) × (List (Int × Int))))) (g0 : Kd.good (.pair (.sl (.pair kI kI)) (.pair (.sl (.pair kI kI)) (.sl (.pair kI kI)))) x0) : ∃ k, Zk k x0 = some true := ⟨0 + 1000, zrQ 0 x0⟩
end Go.Proofs.YtpkkcjmblocjdaaGreat.Pure
