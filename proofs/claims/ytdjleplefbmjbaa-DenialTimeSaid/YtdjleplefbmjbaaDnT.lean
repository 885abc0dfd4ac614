/-
  DenialTime: the plain part.
-/
import Derived.Test.YtdjleplefbmjbaaDnQ
import Derived.Test.YtdjleplefbmjbaaRdS
namespace Go.Proofs.Ytdjleplefbmjbaa
open Go.RowKit
set_option linter.unusedSimpArgs false
set_option linter.unusedVariables false
def tmS (mi : Int) : So := ⟨[], [], 0, 0, 0, 0, mi⟩
theorem cut_emp : cutB [] = true := by decide +kernel
theorem tm_ok {mi : Int} (h0 : 0 ≤ mi) (h1 : mi ≤ 100000) : (tmS mi).ok = true := by
  have h2 : numOk mi = true := by simp [numOk]; omega
  simp [So.ok, tmS, So.nums, cut_emp, h2]
  decide
theorem tm_code {mi : Int} (h0 : 0 ≤ mi) (h1 : mi ≤ 100000) : (tmS mi).code = 0 := by rw [So.code, tm_ok h0 h1]; rfl
theorem tm_len {mi : Int} (h0 : 0 ≤ mi) (h1 : mi ≤ 100000) : (tmS mi).bytes.length ≤ 600 := by
  rw [so_bytes (tm_ok h0 h1)]
  simp [tmS, w4]
theorem tm_read {mi : Int} (h0 : 0 ≤ mi) (h1 : mi ≤ 100000) : psV (tmS mi).bytes = tmS mi := (psV_read (tm_ok h0 h1)).1
theorem tm_time {ttl mi : Int} (t0 : 0 ≤ ttl) (t1 : ttl ≤ 100000) (h0 : 0 ≤ mi) (h1 : mi ≤ 100000) : timeB ⟨[], 6, ttl, (tmS mi).bytes⟩ = true := by
  have hd : dataB 6 (tmS mi).bytes = true := by
    rw [dataB_small (by have := tm_len h0 h1; omega), fitB, if_neg (by decide), if_neg (by decide), if_neg (by decide), if_pos rfl]
    exact (so_read (tm_ok h0 h1)).1
  have ht : ttlB ttl = true := by simp [ttlB]; omega
  have hc : recC [] 6 ttl (tmS mi).bytes = 0 := by
    rw [recC_yes (by decide +kernel) ht hd, checkC, cut_emp]; rfl
  simp [timeB, hc]
theorem tm_n {ttl mi : Int} (t0 : 0 ≤ ttl) (t1 : ttl ≤ 100000) (h0 : 0 ≤ mi) (h1 : mi ≤ 100000) : timeN ⟨[], 6, ttl, (tmS mi).bytes⟩ = min ttl mi := by
  rw [timeN, if_pos (tm_time t0 t1 h0 h1), tm_read h0 h1]; rfl
end Go.Proofs.Ytdjleplefbmjbaa
