/- How many places, edges, faces. -/
import Derived.Test.YtiejhpighhjgiaaB9
set_option linter.unusedVariables false
set_option linter.unusedSimpArgs false
namespace Go.Proofs.Ytiejhpighhjgiaa.Pure
open Go.RowKit Go.Proofs.Ytiejhpighhjgiaa.AM

/-- The first edge that begins at its place. -/
def frst (l : List Pt) (i : Nat) : Bool := (List.range i).all fun k => !(decide ((rdD (0, 0) l (k : Int)).1 = (rdD (0, 0) l (i : Int)).1))
def cntF (l : List Pt) (n : Nat) : Nat := ((List.range n).filter (frst l)).length
theorem cntF_le (l : List Pt) (n : Nat) : cntF l n ≤ n := by
  unfold cntF
  have := List.length_filter_le (frst l) (List.range n)
  simpa using this
theorem cntF_succ (l : List Pt) (n : Nat) : cntF l (n + 1) = if frst l n = true then cntF l n + 1 else cntF l n := by
  unfold cntF
  rw [List.range_succ, List.filter_append, List.length_append]
  cases h : frst l n <;> simp [h]
def cntv (f : List (List Int)) : Int × Int × Int := if chk 1048576 f = 0 then (((cntF (alls f) (alls f).length : Nat) : Int), ((edgs f).length : Int), (f.length : Int)) else (0, 0, 0)
theorem count_f (m : Nat) (f : List (List Int)) (hl : f.length ≤ 900) (hc : ∀ c ∈ f, c.length ≤ 900) (ht : (alls f).length ≤ 900) : g_parquetref11_Count (m + 1000) f = some (cntv f) := by
  unfold g_parquetref11_Count b_parquetref11_Count cntv
  simp only [meet]
  rw [rCheck_f m _ f hl hc ht, bnd_s]
  by_cases hch : chk 1048576 f = 0
  case neg => rw [bif_nF hch, if_neg hch]
  rw [bif_nT hch, if_pos hch, rAll_f m f hl hc ht, bnd_s]
  refine loop_from (fun i => (f, alls f, ((cntF (alls f) i : Nat) : Int), (i : Int))) (alls f).length rfl ?_ ?_ (m + 1000) (by omega)
  · intro next
    dsimp only
    rw [bif_F (by omega), rEdges_f m f hl hc ht, bnd_s]
  · intro i hi next hn
    dsimp only
    have h9 := cntF_le (alls f) i
    rw [bif_T (by omega)]
    refine loop_from (fun k => (f, alls f, ((cntF (alls f) i : Nat) : Int), (i : Int), (List.range k).all (fun k => !(decide ((rdD (0, 0) (alls f) (k : Int)).1 = (rdD (0, 0) (alls f) (i : Int)).1))), (k : Int))) i rfl ?_ ?_ (m + 1000) (by omega)
    · intro next'
      dsimp only
      rw [bif_F (by omega), w64_id (by omega) (by omega), w64_id (by omega) (by omega), ← hn, cntF_succ]
      show (bif frst (alls f) i then _ else _) = _
      cases frst (alls f) i <;> rfl
    · intro k hk next' hn'
      dsimp only
      rw [bif_T (by omega), gd_t (inb_t ⟨by omega, by omega⟩), gd_t (inb_t ⟨by omega, by omega⟩), w64_id (by omega) (by omega), ← hn', List.range_succ, List.all_append]
      cases (List.range k).all (fun k => !(decide ((rdD (0, 0) (alls f) (k : Int)).1 = (rdD (0, 0) (alls f) (i : Int)).1))) <;> simp
theorem edgs_of {f : List (List Int)} {E : List Pt} (h : chk 1048576 f = 0) (hp : (ups f).Perm E) (hs : Srt E) : edgs f = E := by
  rw [edgs, if_pos h]
  exact srt_ext (srtL_srt (ups_nodup (fine_of h))) hs fun s => by rw [(srtL_perm _).mem_iff, hp.mem_iff]
theorem edgs_count {f : List (List Int)} (h : chk 1048576 f = 0) : (edgs f).length = (ups f).length := by
  rw [edgs, if_pos h]; exact (srtL_perm _).length_eq
end Go.Proofs.Ytiejhpighhjgiaa.Pure
