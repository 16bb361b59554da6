/- The document's ghosts: Wrote. -/
import Derived.Test.YtiimoaplhhnklaaDoorHQ
namespace Go.Proofs.YtiimoaplhhnklaaDoor
open Go.RowKit
set_option maxHeartbeats 4000000
set_option maxRecDepth 100000
set_option linter.unusedSimpArgs false
set_option linter.unusedVariables false
attribute [local go_sem ↓] eql_entE neq_entE
attribute [-go_sem] Builtin.append_

theorem eql_ver (w : World) (c n c' n' : Int) : (binOp .eql 53 (.agg #[.int .i64 c, .int .i64 n]) (.agg #[.int .i64 c', .int .i64 n'])).run Tryd.prog w = .ok (.bool (decide (c = c' ∧ n = n'))) w := by
  go_simp
  by_cases h1 : c = c' <;> by_cases h2 : n = n' <;> simp [*]
attribute [local go_sem ↓] eql_ver
theorem EAway.cons {L L' : List Nat} {v : Value} (h : EAway L v) (h' : EAway L' v) : EAway (L ++ L') v := fun b o n c e hn hm => (List.mem_append.1 hm).elim (h b o n c e hn) (h' b o n c e hn)
theorem wroteE_some {x y : Ent} {A : List Ent} (h : eChk x = 0) (hf : findN (nk x) A = some y) : wroteE x A = if y = x then 0 else 190 := by
  unfold wroteE; rw [if_neg (by rw [h]; simp), hf]
theorem wroteE_none {x : Ent} {A : List Ent} (h : eChk x = 0) (hf : findN (nk x) A = none) : wroteE x A = 0 := by
  unfold wroteE; rw [if_neg (by rw [h]; simp), hf]
theorem wroteA_some {x y : Ent} {A : List Ent} (h : eChk x = 0) (hf : findN (nk x) A = some y) : wroteA x A = A := by
  unfold wroteA; rw [if_neg (by rw [h]; simp), hf]
theorem wroteA_none {x : Ent} {A : List Ent} (h : eChk x = 0) (hf : findN (nk x) A = none) : wroteA x A = A ++ [x] := by
  unfold wroteA; rw [if_neg (by rw [h]; simp), hf]
theorem findN_first {A : List Ent} {k : Nat} {n : NK} (h : k < A.length) (hf : ∀ y ∈ A.take k, ¬ nk y = n) (e : nk A[k] = n) : findN n A = some A[k] := by
  have hsp : A = A.take k ++ A[k] :: A.drop (k + 1) := by rw [← List.drop_eq_getElem_cons h, List.take_append_drop]
  unfold findN
  conv => lhs; rw [hsp]
  rw [List.find?_append, List.find?_eq_none.2 (fun y hy => by simpa using hf y hy), Option.none_or, List.find?_cons_of_pos (by simpa using e)]
end Go.Proofs.YtiimoaplhhnklaaDoor
