/- What a right table is, in words. -/
import Derived.Test.YtbnjffhcpkfnhaaHV
namespace Go.Proofs.Ytbnjffhcpkfnhaa.H
open Go.RowKit

theorem errV_len {t : List (List Int)} (h : errV t = 0) : t.length ≤ 7 := by
  unfold errV at h
  split at h
  · cases h
  · omega
theorem errV_ok {t : List (List Int)} (h : errV t = 0) : okV t = true := by
  unfold errV at h
  split at h
  · cases h
  · split at h
    · assumption
    · cases h
theorem errV_pos {t : List (List Int)} (h : errV t = 0) : 1 ≤ t.length := by
  unfold errV at h
  split at h
  · cases h
  · omega

end Go.Proofs.Ytbnjffhcpkfnhaa.H
