/- filt: the reference's Do, Undo and Weight. -/
import Derived.Test.YtcancpnepfnhmaaMaFilt3
namespace Go.Proofs.Ytcancpnepfnhmaa
set_option linter.all false
open Go.RowKit

theorem gB_mod (kind bpp i : Int) (prev row : List UInt8) : gss kind (gAt row (i - bpp)) (gAt prev i) (gAt prev (i - bpp)) % 256 = (gB kind bpp i prev row).toNat := by
  have h := gss_rng kind _ _ _ (gAt_rng row (i - bpp)) (gAt_rng prev i) (gAt_rng prev (i - bpp))
  rw [gB_val]
  omega

theorem wrong_len {kind bpp : Int} {n n' : Nat} (h : wrongV kind bpp n n' = 0) : n = 0 ∨ n = n' := by
  unfold wrongV at h
  split at h
  · omega
  · split at h <;> omega

end Go.Proofs.Ytcancpnepfnhmaa
