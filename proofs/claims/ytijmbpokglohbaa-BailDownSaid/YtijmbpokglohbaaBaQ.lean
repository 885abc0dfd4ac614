/-
  How long the names are that go with a reply.
-/
import Derived.Test.YtijmbpokglohbaaBaE
namespace Go.Proofs.Ytijmbpokglohbaa
set_option linter.unusedSimpArgs false
set_option linter.unusedVariables false
theorem judge_len (n : Bs) (k : Int) (tr : Bool) (rc : Int) (z : Bs) {an ns : List Rc} (hn : n.length ≤ 5000) (ha : rcsh an) (hs : rcsh ns) : (judgeR n k tr rc an ns z).2.length ≤ 5000 := by
  unfold judgeR
  split
  · split
    · show (fold n).length ≤ 5000
      rw [fold_len]; exact hn
    · split
      · rename_i r hr
        have h1 := wit_mem (List.mem_of_find?_eq_some hr)
        have h2 := (ha.2 r h1.1).2
        have h3 := phN_le 5 r.d
        show (fold (phN 5 r.d)).length ≤ 5000
        rw [fold_len]; omega
      · split
        · rename_i r hr
          have h1 := wit_mem (List.mem_of_find?_eq_some hr)
          have h2 := (hs.2 r h1.1).1
          show (fold r.nm).length ≤ 5000
          rw [fold_len]; exact h2
        · split
          · split
            · rename_i x hx
              exact best_fact (witL ns z) none (fun x => x.length ≤ 5000) (fun x h => by cases h) (fun r hr _ => by rw [fold_len]; exact (hs.2 r (wit_mem hr).1).1) x hx
            · exact Nat.zero_le _
          · exact Nat.zero_le _
  · exact Nat.zero_le _
end Go.Proofs.Ytijmbpokglohbaa
