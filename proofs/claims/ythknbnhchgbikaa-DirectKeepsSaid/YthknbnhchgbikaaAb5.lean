/- Words for this claim: an evaluator of the program's functions, and what they come to. -/
import Derived.Test.YthknbnhchgbikaaAb3
set_option linter.all false
namespace Go.Ab
theorem doE_err {e x : Int} (h : e ≠ 0) : doE e x = e := by unfold doE; rw [if_neg h]
theorem doDE_err {e a b : Int} (h : e ≠ 0) : doDE e a b = e := by unfold doDE; rw [if_neg h]
theorem doRE_err {e a : Int} (h : e ≠ 0) : doRE e a = e := by unfold doRE; rw [if_neg h]
theorem doE_ok (x : Int) : doE 0 x = fitE x := rfl
theorem doN_ok (x : Int) : doN 0 x = fitN x := rfl
theorem doDE_ok (a b : Int) : doDE 0 a b = divE a b := rfl
theorem doDN_ok (a b : Int) : doDN 0 a b = fitN (divI a b) := rfl
theorem doRE_ok (a : Int) : doRE 0 a = rootE a := rfl
theorem doRN_ok (a : Int) : doRN 0 a = rootI a := rfl
theorem pull_err {g a b x y eps h e : Int} (hk : (pullK g a b (len2N x y) (len2E x y) eps h).e = e) (he : e ≠ 0) : pullE g a b x y eps h = e ∧ pullX g a b x y eps h = 0 ∧ pullY g a b x y eps h = 0 := by
  unfold pullE pullX pullY
  simp only [hk, he, if_false]
  exact ⟨trivial, trivial, trivial⟩
theorem pull_got {g a b x y eps h : Int} (hk : (pullK g a b (len2N x y) (len2E x y) eps h).e = 0) : pullE g a b x y eps h = bothE (mulI x (pullK g a b (len2N x y) (len2E x y) eps h).k) (mulI y (pullK g a b (len2N x y) (len2E x y) eps h).k) ∧
    pullX g a b x y eps h = both1 (mulI x (pullK g a b (len2N x y) (len2E x y) eps h).k) (mulI y (pullK g a b (len2N x y) (len2E x y) eps h).k) ∧ pullY g a b x y eps h = both1 (mulI y (pullK g a b (len2N x y) (len2E x y) eps h).k) (mulI x (pullK g a b (len2N x y) (len2E x y) eps h).k) := by
  unfold pullE pullX pullY
  simp only [hk, if_true]
  exact ⟨trivial, trivial, trivial⟩
variable (g a b n e0 eps h : Int)
theorem pk0 (q : e0 ≠ 0) : (pullK g a b n e0 eps h).e = e0 := by
  simp only [pullK, doE_err q, doRE_err q, doDE_err q]
theorem pk1 (q : fitE (mulI eps eps) ≠ 0) : (pullK g a b n 0 eps h).e = fitE (mulI eps eps) := by
  simp only [pullK, doE_ok, doE_err q, doRE_err q, doDE_err q]
theorem pk2 (q1 : fitE (mulI eps eps) = 0) (q : fitE (n + mulI eps eps) ≠ 0) : (pullK g a b n 0 eps h).e = fitE (n + mulI eps eps) := by
  simp only [pullK, doE_ok, doN_ok, q1, fitN_of q1, doE_err q, doRE_err q, doDE_err q]
theorem pk3 (q1 : fitE (mulI eps eps) = 0) (q2 : fitE (n + mulI eps eps) = 0) (q : rootE (n + mulI eps eps) ≠ 0) : (pullK g a b n 0 eps h).e = rootE (n + mulI eps eps) := by
  simp only [pullK, doE_ok, doN_ok, doRE_ok, q1, fitN_of q1, q2, fitN_of q2, doE_err q, doDE_err q]
theorem pk4 (q1 : fitE (mulI eps eps) = 0) (q2 : fitE (n + mulI eps eps) = 0) (q3 : rootE (n + mulI eps eps) = 0) (q : fitE (mulI a b) ≠ 0) : (pullK g a b n 0 eps h).e = fitE (mulI a b) := by
  simp only [pullK, doE_ok, doN_ok, doRE_ok, q1, fitN_of q1, q2, fitN_of q2, q3, doE_err q, doDE_err q]
theorem pk5 (q1 : fitE (mulI eps eps) = 0) (q2 : fitE (n + mulI eps eps) = 0) (q3 : rootE (n + mulI eps eps) = 0) (q4 : fitE (mulI a b) = 0) (q : fitE (mulI g (mulI a b)) ≠ 0) : (pullK g a b n 0 eps h).e = fitE (mulI g (mulI a b)) := by
  simp only [pullK, doE_ok, doN_ok, doRE_ok, q1, fitN_of q1, q2, fitN_of q2, q3, q4, fitN_of q4, doE_err q, doDE_err q]
theorem pk6 (q1 : fitE (mulI eps eps) = 0) (q2 : fitE (n + mulI eps eps) = 0) (q3 : rootE (n + mulI eps eps) = 0) (q4 : fitE (mulI a b) = 0) (q5 : fitE (mulI g (mulI a b)) = 0) (q : fitE (mulI (mulI g (mulI a b)) h) ≠ 0) : (pullK g a b n 0 eps h).e = fitE (mulI (mulI g (mulI a b)) h) := by
  simp only [pullK, doE_ok, doN_ok, doRE_ok, q1, fitN_of q1, q2, fitN_of q2, q3, q4, fitN_of q4, q5, fitN_of q5, doDE_err q]
theorem pk7 (q1 : fitE (mulI eps eps) = 0) (q2 : fitE (n + mulI eps eps) = 0) (q3 : rootE (n + mulI eps eps) = 0) (q4 : fitE (mulI a b) = 0) (q5 : fitE (mulI g (mulI a b)) = 0) (q6 : fitE (mulI (mulI g (mulI a b)) h) = 0) (q : divE (mulI (mulI g (mulI a b)) h) (n + mulI eps eps) ≠ 0) : (pullK g a b n 0 eps h).e = divE (mulI (mulI g (mulI a b)) h) (n + mulI eps eps) := by
  simp only [pullK, doE_ok, doN_ok, doRE_ok, doDE_ok, q1, fitN_of q1, q2, fitN_of q2, q3, q4, fitN_of q4, q5, fitN_of q5, q6, fitN_of q6, doDE_err q]
theorem pk8 (q1 : fitE (mulI eps eps) = 0) (q2 : fitE (n + mulI eps eps) = 0) (q3 : rootE (n + mulI eps eps) = 0) (q4 : fitE (mulI a b) = 0) (q5 : fitE (mulI g (mulI a b)) = 0) (q6 : fitE (mulI (mulI g (mulI a b)) h) = 0) (q7 : divE (mulI (mulI g (mulI a b)) h) (n + mulI eps eps) = 0) :
    (pullK g a b n 0 eps h).e = divE (fitN (divI (mulI (mulI g (mulI a b)) h) (n + mulI eps eps))) (rootI (n + mulI eps eps)) ∧ (pullK g a b n 0 eps h).k = if divE (mulI (mulI g (mulI a b)) h) (n + mulI eps eps) = 0 then fitN (divI (fitN (divI (mulI (mulI g (mulI a b)) h) (n + mulI eps eps))) (rootI (n + mulI eps eps))) else 0 := by
  simp only [pullK, doE_ok, doN_ok, doRE_ok, doRN_ok, doDE_ok, doDN_ok, q1, fitN_of q1, q2, fitN_of q2, q3, q4, fitN_of q4, q5, fitN_of q5, q6, fitN_of q6, q7, if_true]
  exact ⟨trivial, trivial⟩
end Go.Ab
