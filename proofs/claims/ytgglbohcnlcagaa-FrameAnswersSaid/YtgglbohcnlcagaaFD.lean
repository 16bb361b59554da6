/- Two frames: are they the same? -/
import Derived.Test.YtgglbohcnlcagaaFC
import Derived.Test.YtgglbohcnlcagaaF7
namespace Go.Proofs.Ytgglbohcnlcagaa
open Go.RowKit
set_option maxHeartbeats 8000000
set_option maxRecDepth 100000
set_option linter.unusedSimpArgs false
set_option linter.unusedVariables false

def eqName (a b c x y z : Int) : Bool := decide (a = x ∧ b = y ∧ c = z)
theorem eql_name' (w : World) (a b c x y z : Int) : (binOp .eql 23 (.agg #[.int .i64 a, .int .i64 b, .int .i64 c]) (.agg #[.int .i64 x, .int .i64 y, .int .i64 z])).run Try.prog w = .ok (.bool (eqName a b c x y z)) w := by
  unfold eqName
  go_simp
  by_cases h1 : a = x <;> by_cases h2 : b = y <;> by_cases h3 : c = z <;> simp [*]
attribute [local go_sem ↓] eql_name'
open Classical in
noncomputable def sameF (x y : Frm) : Bool := decide (x = y)
theorem sameF_ne {x y : Frm} (h : x ≠ y) : sameF x y = false := by simp [sameF, h]
theorem sameF_eq (f t o li nu tu : Int) (l l' : List Prt) : sameF ⟨f, t, o, li, nu, tu, l⟩ ⟨f, t, o, li, nu, tu, l'⟩ = sameP l l' := by
  by_cases h : l = l'
  · subst h; simp [sameF, sameP]
  · simp [sameF, sameP, h]

theorem rSame_any (f t o li nu tu f' t' o' li' nu' tu' : Int) (l l' : List Prt) (sv sv' : Value) (w : World) (hs : PrtSl w sv l) (hs' : PrtSl w sv' l') :
    Calls Try.prog 30 #[.agg #[.int .i64 f, .int .i64 t, .int .i64 o, .int .i64 li, .int .i64 nu, .int .i64 tu, sv], .agg #[.int .i64 f', .int .i64 t', .int .i64 o', .int .i64 li', .int .i64 nu', .int .i64 tu', sv']] w
      fun e w' => e = .returned (.bool (sameF ⟨f, t, o, li, nu, tu, l⟩ ⟨f', t', o', li', nu', tu', l'⟩)) ∧ Ext w w' := by
  have HS := hid_mk hs
  have HS' := hid_mk hs'
  obtain ⟨a, c, rfl, -, -, -⟩ := hs
  obtain ⟨a', c', rfl, -, -, -⟩ := hs'
  have HNE := hid_mk (show (¬ f = f' ∨ ¬ t = t' ∨ ¬ (o = o' ∧ li = li' ∧ nu = nu') ∨ ¬ tu = tu') → sameF ⟨f, t, o, li, nu, tu, l⟩ ⟨f', t', o', li', nu', tu', l'⟩ = false from fun h => sameF_ne (fun e => by cases e; simp at h))
  go_enter Try.func30, Try.ntmps30
  by_cases q1 : f = f'
  · subst q1
    by_cases q2 : t = t'
    · subst q2
      by_cases q3 : o = o' ∧ li = li' ∧ nu = nu'
      · obtain ⟨rfl, rfl, rfl⟩ := q3
        have q3b : eqName o li nu o li nu = true := by simp [eqName]
        by_cases q4 : tu = tu'
        · subst q4
          go_wp2_with fail
          refine (SameParts_any l l' _ _ _ (HS.out.ext (by (repeat (first | exact Ext.refl _ | apply Ext.drew_left | apply Ext.drew | apply Ext.alloc)))) (HS'.out.ext (by (repeat (first | exact Ext.refl _ | apply Ext.drew_left | apply Ext.drew | apply Ext.alloc))))).mono ?_
          rintro e w1 ⟨rfl, hx1⟩
          replace hx1 := hid_mk hx1
          go_wp2
          go_ret
          exact ⟨ret_bool (sameF_eq _ _ _ _ _ _ _ _).symm, Ext.trans _ _ _ (by (repeat (first | exact Ext.refl _ | apply Ext.drew_left | apply Ext.drew | apply Ext.alloc))) hx1.out⟩
        · have q4b : (tu == tu') = false := by simpa using q4
          have HR := hid_mk (HNE.out (Or.inr (Or.inr (Or.inr q4))))
          clear q4
          go_wp2
          go_ret
          exact ⟨ret_bool HR.out.symm, by (repeat (first | exact Ext.refl _ | apply Ext.drew_left | apply Ext.drew | apply Ext.alloc))⟩
      · have q3b : eqName o li nu o' li' nu' = false := by unfold eqName; exact decide_eq_false q3
        have HR := hid_mk (HNE.out (Or.inr (Or.inr (Or.inl q3))))
        clear q3
        go_wp2
        go_ret
        exact ⟨ret_bool HR.out.symm, by (repeat (first | exact Ext.refl _ | apply Ext.drew_left | apply Ext.drew | apply Ext.alloc))⟩
    · have q2b : (t == t') = false := by simpa using q2
      have HR := hid_mk (HNE.out (Or.inr (Or.inl q2)))
      clear q2
      go_wp2
      go_ret
      exact ⟨ret_bool HR.out.symm, by (repeat (first | exact Ext.refl _ | apply Ext.drew_left | apply Ext.drew | apply Ext.alloc))⟩
  · have q1b : (f == f') = false := by simpa using q1
    have HR := hid_mk (HNE.out (Or.inl q1))
    clear q1
    go_wp2
    go_ret
    exact ⟨ret_bool HR.out.symm, by (repeat (first | exact Ext.refl _ | apply Ext.drew_left | apply Ext.drew | apply Ext.alloc))⟩
end Go.Proofs.Ytgglbohcnlcagaa
