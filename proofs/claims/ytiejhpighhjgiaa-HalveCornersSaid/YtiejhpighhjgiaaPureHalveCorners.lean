/- The plain law of HalveCorners. -/
import Derived.Test.YtiejhpighhjgiaaB9
set_option linter.unusedVariables false
namespace Go.Proofs.Ytiejhpighhjgiaa.Pure
open Go.RowKit Go.Proofs.Ytiejhpighhjgiaa.AM
theorem corners_law (m : Nat) (p : List Pt) (f : List (List Int)) : g_parquetlaw20_HalveCorners (m + 1000) p f = some true := by
  unfold g_parquetlaw20_HalveCorners b_parquetlaw20_HalveCorners
  simp only [meet]
  obtain ⟨b, hb, hm⟩ := many_f m p f
  rw [hb, bnd_s]
  simp only [known_ok, bnd_s]
  cases b with
  | true => rfl
  | false =>
    have h := hm rfl
    have hf := h.few
    rw [cF, run_f m p f hf, bnd_s]
    by_cases hr : runOk p f
    case neg =>
      rw [runv_no hr]
      dsimp only
      rw [bif_nF (by decide)]
    rw [runv_ok hr]
    dsimp only
    rw [bif_nT rfl]
    have hch := hr.1
    have F := fine_of hch
    have h1 := h.hp
    have h2 := h.hf
    have h3 := h.ht
    have hLl := edgs_len hch hf
    refine loop_from (fun i => (p, f, plc p f, outs p.length (edgs f) f f.length, ((off f i : Nat) : Int), (i : Int))) f.length (by rw [off_zero]; rfl) ?_ ?_ (m + 1000) (by omega)
    · intro next
      dsimp only
      rw [bif_F (by omega), off_all, outs_total, bif_T rfl]
    · intro i hi next hn
      dsimp only
      have hfi : fc f i ∈ f := by rw [fc_get hi]; exact List.getElem_mem hi
      have hmid : midOk p (fc f i) := hr.2.2 _ hfi
      rw [bif_T (by omega), gd_t (inb_t ⟨by omega, by omega⟩), gd_t (inb_t ⟨by omega, by omega⟩), show rdD [] f (i : Int) = fc f i from rfl, middle_f, bnd_s, midr, if_pos hmid]
      dsimp only
      have ho := off_succ f i hi
      have hol := off_le f (i + 1)
      have hcl : (fc f i).length ≤ 200 := by omega
      refine loop_from (fun k => (p, f, plc p f, outs p.length (edgs f) f f.length, ((off f i + k : Nat) : Int), (i : Int), ((fc f i).length : Int), midv p (fc f i), 0, (k : Int))) (fc f i).length rfl ?_ ?_ (m + 1000) (by omega)
      · intro next'
        dsimp only
        rw [bif_F (by omega), w64_id (by omega) (by omega), ← hn, ho]
        rfl
      · intro k hk next' hn'
        dsimp only
        obtain ⟨ht, hG⟩ := outs_rd p.length (edgs f) hi hk
        have hlk := row_in hch hi hk
        have hA := F.rng _ hfi _ (rd_in hk)
        have m1 : (k + 1) % (fc f i).length < (fc f i).length := Nat.mod_lt _ (by omega)
        have m2 : (k + (fc f i).length - 1) % (fc f i).length < (fc f i).length := Nat.mod_lt _ (by omega)
        have hN : 0 ≤ nx (fc f i) k ∧ nx (fc f i) k < (p.length : Int) := F.rng _ hfi _ (rd_in m1)
        have hP : 0 ≤ pv (fc f i) k ∧ pv (fc f i) k < (p.length : Int) := F.rng _ hfi _ (rd_in m2)
        have t1 : (w64 ((k : Int) + 1)).tmod ((fc f i).length : Int) = (((k + 1) % (fc f i).length : Nat) : Int) := by
          rw [w64_id (by omega) (by omega), Int.tmod_eq_emod_of_nonneg (by omega), Int.natCast_emod]
          rfl
        have t2 : (w64 ((w64 ((k : Int) + ((fc f i).length : Int))) - 1)).tmod ((fc f i).length : Int) = (((k + (fc f i).length - 1) % (fc f i).length : Nat) : Int) := by
          rw [w64_id (x := (k : Int) + _) (by omega) (by omega), w64_id (by omega) (by omega), Int.tmod_eq_emod_of_nonneg (by omega), Int.natCast_emod]
          congr 1
          omega
        have i1 := ix_lt hlk.1
        have i2 := ix_lt hlk.2
        have qA := okPt hr.2.1 hA.1 hA.2
        have qN := okPt hr.2.1 hN.1 hN.2
        have qP := okPt hr.2.1 hP.1 hP.2
        have bA := qA.b
        have bN := qN.b
        have bP := qP.b
        have hq0 := plc_p p f hA.1 hA.2
        have hq1 := plc_e p f hlk.1
        have hq3 := plc_e p f hlk.2
        have hq2 := plc_m p f hi
        have hql := plc_len p f
        rw [hv_up] at hq1 hq3
        rw [bif_T (by omega), bif_F (by omega), gd_t (inb_t ⟨by omega, by omega⟩), hG]
        unfold rowv at hG ⊢
        generalize hS1 : ix (edgs f) (up (rdD 0 (fc f i) (k : Int), nx (fc f i) k)) = s1 at *
        generalize hS3 : ix (edgs f) (up (rdD 0 (fc f i) (k : Int), pv (fc f i) k)) = s3 at *
        generalize plc p f = q at *
        generalize outs p.length (edgs f) f f.length = g at *
        generalize hAe : rdD 0 (fc f i) (k : Int) = A at *
        generalize hNe : nx (fc f i) k = Nn at *
        generalize hPe : pv (fc f i) k = Pp at *
        rw [bif_nT (by rfl), bif_nT (by rfl)]
        refine loop_from (fun j => (p, f, q, g, ((off f i + k : Nat) : Int), (i : Int), ((fc f i).length : Int), midv p (fc f i), 0, (k : Int), (j : Int))) 4 rfl ?_ ?_ (m + 1000) (by omega)
        · intro next''
          dsimp only
          rw [bif_F (by decide), gd_t (inb_t ⟨by omega, by omega⟩), show rdD [] f (i : Int) = fc f i from rfl, t1, t2, hG]
          rw [show rdD 0 (fc f i) (((k + 1) % (fc f i).length : Nat) : Int) = nx (fc f i) k from rfl, show rdD 0 (fc f i) (((k + (fc f i).length - 1) % (fc f i).length : Nat) : Int) = pv (fc f i) k from rfl, hAe, hNe, hPe]
          simp only [show ∀ a b c d : Int, rdD 0 [a, b, c, d] 0 = a from fun _ _ _ _ => rfl, show ∀ a b c d : Int, rdD 0 [a, b, c, d] 1 = b from fun _ _ _ _ => rfl, show ∀ a b c d : Int, rdD 0 [a, b, c, d] 2 = c from fun _ _ _ _ => rfl, show ∀ a b c d : Int, rdD 0 [a, b, c, d] 3 = d from fun _ _ _ _ => rfl, hq0, hq1, hq2, hq3, etaP]
          rw [show rdD (0, 0) p A = pt p A from rfl, show rdD (0, 0) p Nn = pt p Nn from rfl, show rdD (0, 0) p Pp = pt p Pp from rfl]
          have in1 : inb (i : Int) f.length = true := inb_t ⟨by omega, by omega⟩
          have in2 : inb (k : Int) (fc f i).length = true := inb_t ⟨by omega, by omega⟩
          have in3 : inb A p.length = true := inb_t ⟨by omega, by omega⟩
          have in4 : inb (((k + 1) % (fc f i).length : Nat) : Int) (fc f i).length = true := inb_t ⟨by omega, by omega⟩
          have in5 : inb (((k + (fc f i).length - 1) % (fc f i).length : Nat) : Int) (fc f i).length = true := inb_t ⟨by omega, by omega⟩
          have in6 : inb Nn p.length = true := inb_t ⟨by omega, by omega⟩
          have in7 : inb Pp p.length = true := inb_t ⟨by omega, by omega⟩
          have in8 : inb ((off f i + k : Nat) : Int) g.length = true := inb_t ⟨by omega, by omega⟩
          have in9 : inb ((p.length + s1 : Nat) : Int) q.length = true := inb_t ⟨by omega, by omega⟩
          have in10 : inb ((p.length + s3 : Nat) : Int) q.length = true := inb_t ⟨by omega, by omega⟩
          have in11 : inb A q.length = true := inb_t ⟨by omega, by omega⟩
          have in12 : inb ((p.length + (edgs f).length + i : Nat) : Int) q.length = true := inb_t ⟨by omega, by omega⟩
          have in13 : ∀ a b c d : Int, inb 0 [a, b, c, d].length = true := fun _ _ _ _ => rfl
          have in14 : ∀ a b c d : Int, inb 1 [a, b, c, d].length = true := fun _ _ _ _ => rfl
          have in15 : ∀ a b c d : Int, inb 2 [a, b, c, d].length = true := fun _ _ _ _ => rfl
          have in16 : ∀ a b c d : Int, inb 3 [a, b, c, d].length = true := fun _ _ _ _ => rfl
          have nz : (!(decide (((fc f i).length : Int) = 0))) = true := by rw [decide_eq_false (by omega)]; rfl
          have w1 : ∀ x : Int, -357913941 ≤ x → x ≤ 357913941 → w64 (12 * x) = 12 * x := fun x h h' => w64_id (by omega) (by omega)
          have w2 : ∀ x y : Int, -357913941 ≤ x → x ≤ 357913941 → -357913941 ≤ y → y ≤ 357913941 → w64 (6 * w64 (x + y)) = 6 * (x + y) := fun x y h h' h2 h2' => by rw [w64_id (x := x + y) (by omega) (by omega), w64_id (by omega) (by omega)]
          simp only [gT, in1, in2, in3, in4, in5, in6, in7, in8, in9, in10, in11, in12, in13, in14, in15, in16, nz]
          rw [w1 _ bA.1 bA.2.1, w1 _ bA.2.2.1 bA.2.2.2, w2 _ _ bA.1 bA.2.1 bN.1 bN.2.1, w2 _ _ bA.2.2.1 bA.2.2.2 bN.2.2.1 bN.2.2.2, w2 _ _ bA.1 bA.2.1 bP.1 bP.2.1, w2 _ _ bA.2.2.1 bA.2.2.2 bP.2.2.1 bP.2.2.2]
          simp only [sc, decide_true, Bool.not_true, Bool.and_self, cF]
          rw [w64_id (by omega) (by omega), w64_id (by omega) (by omega), ← hn']
          rfl
        · intro j hj next'' hn''
          dsimp only
          have hql' : q.length = p.length + (edgs f).length + f.length := hql
          rw [bif_T (by omega), gd_t (inb_t ⟨by omega, by omega⟩), hG, gd_t (inb_t ⟨by omega, by show (j : Int) < 4; omega⟩)]
          have hjv : 0 ≤ rdD 0 [A, ((p.length + s1 : Nat) : Int), ((p.length + (edgs f).length + i : Nat) : Int), ((p.length + s3 : Nat) : Int)] (j : Int) ∧ rdD 0 [A, ((p.length + s1 : Nat) : Int), ((p.length + (edgs f).length + i : Nat) : Int), ((p.length + s3 : Nat) : Int)] (j : Int) < (q.length : Int) := by
            match j, hj with
            | 0, _ => exact ⟨hA.1, by show A < _; omega⟩
            | 1, _ => exact ⟨by show (0 : Int) ≤ ((p.length + s1 : Nat) : Int); omega, by show ((p.length + s1 : Nat) : Int) < _; omega⟩
            | 2, _ => exact ⟨by show (0 : Int) ≤ ((p.length + (edgs f).length + i : Nat) : Int); omega, by show ((p.length + (edgs f).length + i : Nat) : Int) < _; omega⟩
            | 3, _ => exact ⟨by show (0 : Int) ≤ ((p.length + s3 : Nat) : Int); omega, by show ((p.length + s3 : Nat) : Int) < _; omega⟩
          rw [bif_F (by omega), gd_t (inb_t ⟨by omega, by omega⟩), gd_t (inb_t ⟨by omega, by show (j : Int) < 4; omega⟩), bif_F (by omega), w64_id (by omega) (by omega)]
          exact hn''
theorem HalveCorners (x0 : (List (Int × Int))) (x1 : (List (List Int))) (g0 : Kd.good (.sl (.pair kI kI)) x0) (g1 : Kd.good (.sl (.sl kI)) x1) : ∃ k, g_parquetlaw20_HalveCorners k x0 x1 = some true := ⟨1000, corners_law 0 x0 x1⟩
end Go.Proofs.Ytiejhpighhjgiaa.Pure
