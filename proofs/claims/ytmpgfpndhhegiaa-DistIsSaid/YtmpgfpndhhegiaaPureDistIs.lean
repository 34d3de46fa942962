/- DistIs, in plain lists: the package's distance is the reference's. Conditions: none. -/
import Derived.Test.YtmpgfpndhhegiaaDBIs
import Derived.Test.YtmpgfpndhhegiaaDistOf
namespace Go.Proofs.Ytmpgfpndhhegiaa.DB
open Go.RowKit Go.Proofs.YtmpgfpndhhegiaaW.PrintWords Go.Proofs.YtmpgfpndhhegiaaW.PrintLast Go.Proofs.YtmpgfpndhhegiaaW.PrintMore Go.Proofs.Ytmpgfpndhhegiaa.Osa

theorem is_j0 (a b : List Int) (ha : a.length ≤ 1000) (hb : b.length ≤ 1000) : redpenlaw08_DistIs.j0 301 a b false = some true := by
  simp only [redpenlaw08_DistIs.j0]
  rw [if_neg (by simp)]
  by_cases h : a.length ≤ 64 ∧ b.length ≤ 64
  · rw [of_eq a b 300 h.1 h.2 (by omega), redpenref06_Dist.eq _ a b h.1 h.2]
    simp
  · rw [of_long a b 300 (by omega) (by omega), redpenref06_Dist.long _ a b (by omega) ha hb]
    simp
theorem DistIs : redpenlaw08_DistIs.Pure := by
  intro l0 l1 _ _ _ _ _ _
  refine ⟨301, ?_⟩
  unfold redpenlaw08_DistIs.f
  rw [awake_eq 301 (by omega), Option.bind_some, if_pos rfl]
  by_cases h0 : l0.length > 100
  · rw [if_pos (by omega)]
    simp [redpenlaw08_DistIs.j0]
  · rw [if_neg (by omega)]
    by_cases h1 : l1.length > 100
    · rw [show decide ((l1.length : Int) > 100) = true from by simp; omega]
      simp [redpenlaw08_DistIs.j0]
    · rw [show decide ((l1.length : Int) > 100) = false from by simp; omega]
      exact is_j0 l0 l1 (by omega) (by omega)
end Go.Proofs.Ytmpgfpndhhegiaa.DB
