/- The first frame of a session, the document's answer. -/
import Derived.Test.YtgglbohcnlcagaaFA
import Derived.Test.YtgglbohcnlcagaaF5
namespace Go.Proofs.Ytgglbohcnlcagaa
open Go.RowKit
set_option maxHeartbeats 8000000
set_option maxRecDepth 100000
set_option linter.unusedSimpArgs false
set_option linter.unusedVariables false

theorem rfCheck_all (f t o li nu tu : Int) (l : List Prt) (sv : Value) (w : World) (hs : PrtSl w sv l) :
    Calls Try.prog 15 #[.agg #[.int .i64 f, .int .i64 t, .int .i64 o, .int .i64 li, .int .i64 nu, .int .i64 tu, sv]] w fun e w' => e = .returned (.int .i64 (frmChk ⟨f, t, o, li, nu, tu, l⟩)) ∧ Ext w w' :=
  rfCheck_any (fun l sv w hs => rCheckParts_any rpart_any l sv w hs) f t o li nu tu l sv w hs

theorem arr_head {xs ys : Array Value} {i : Nat} {v : Value} (h : xs[i]? = some v) : (xs ++ ys)[i]? = some v := by
  have hi : i < xs.size := (Array.getElem?_eq_some_iff.1 h).1
  rw [Array.getElem?_append_left hi]; exact h
theorem rFirst_any (peer o li nu cnt s0 s1 : Int) (w : World) :
    Calls Try.prog 54 #[.int .i64 peer, .agg #[.int .i64 o, .int .i64 li, .int .i64 nu], .agg #[.int .i64 cnt, .int .u64 s0, .int .u64 s1]] w fun e w' => FstOut peer o li nu cnt s0 s1 w e w' := by
  unfold FstOut
  go_enter Try.func54, Try.ntmps54
  go_wp2_with fail
  have hC : 1 ≤ (Question.appendCap 1 0 41).cut (w.tape w.drawn (Question.appendCap 1 0 41)) := Nat.le_add_right _ _
  generalize (Question.appendCap 1 0 41).cut (w.tape w.drawn (Question.appendCap 1 0 41)) = C at hC ⊢
  refine (rfCheck_all o peer o li nu 0 [fstPrt cnt s0 s1] _ _ (prtSl_one (p := fstPrt cnt s0 s1) (sv := .slice none 0 0) ⟨by simp only [fstPrt]; go_simp; exact arr_head rfl, by simp only [fstPrt]; go_simp; exact arr_head rfl, by simp only [fstPrt]; go_simp; exact arr_head rfl, by simp only [fstPrt]; go_simp; exact arr_head rfl, by simp only [fstPrt]; go_simp; exact arr_head rfl, by simp only [fstPrt]; go_simp; exact arr_head rfl, by simp only [fstPrt]; go_simp; exact arr_head rfl, by go_simp; exact arr_head rfl, entSl_nil _⟩ hC)).mono ?_
  rintro e w1 ⟨rfl, hx1⟩
  have HW := hid_mk (show Ext w w1 from Ext.trans _ _ _ (by repeat (first | (with_reducible exact Ext.refl _) | (with_reducible apply Ext.drew) | (with_reducible apply Ext.alloc))) hx1)
  have HC1 := hid_mk hC
  have hc1 := hx1.hc; have hl1 := hx1.hl; have he1 := hx1.hle; have hn1 := hx1.hne; replace hx1 := hid_mk hx1
  have hf1 := hx1.out.hf
  by_cases hz : frmChk ⟨o, peer, o, li, nu, 0, [fstPrt cnt s0 s1]⟩ = 0
  · rw [hz]
    go_wp2
    refine bodyPost_ret (v := .tuple #[.agg #[.int .i64 o, .int .i64 peer, .int .i64 o, .int .i64 li, .int .i64 nu, .int .i64 0, .slice (some ⟨_, 0, none⟩) 1 C], .int .i64 0]) (by unfold results; rw [Try.results54]; go_simp; rfl) rfl ⟨fun _ => ⟨_, rfl, ?_⟩, fun h => absurd hz h, ?_⟩
    · exact prtSl_one (p := fstPrt cnt s0 s1) (sv := .slice none 0 0) ⟨by simp only [fstPrt]; go_simp; exact arr_head rfl, by simp only [fstPrt]; go_simp; exact arr_head rfl, by simp only [fstPrt]; go_simp; exact arr_head rfl, by simp only [fstPrt]; go_simp; exact arr_head rfl, by simp only [fstPrt]; go_simp; exact arr_head rfl, by simp only [fstPrt]; go_simp; exact arr_head rfl, by simp only [fstPrt]; go_simp; exact arr_head rfl, by go_simp; exact arr_head rfl, entSl_nil _⟩ HC1.out
    · iterate 7 (with_reducible refine Ext.setC ?_ (by omega))
      exact HW.out
  · go_wp2
    refine bodyPost_ret (v := .tuple #[.agg #[.int .i64 0, .int .i64 0, .int .i64 0, .int .i64 0, .int .i64 0, .int .i64 0, .slice none 0 0], .int .i64 _]) (by unfold results; rw [Try.results54]; go_simp) rfl ⟨fun h => absurd h hz, fun _ => rfl, ?_⟩
    · iterate 7 (with_reducible refine Ext.setC ?_ (by omega))
      exact HW.out
end Go.Proofs.Ytgglbohcnlcagaa
