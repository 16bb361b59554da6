/- GhostScript: whatever script is handed in, the law returns true, and the argument reads afterwards as before. No condition. -/
import Derived.Test.YtiimoaplhhnklaaRows
import Derived.Test.YtiimoaplhhnklaaHZ
import Derived.Test.YtiimoaplhhnklaaFO
import Derived.Test.YtiimoaplhhnklaaLift
namespace Go.Proofs.Ytiimoaplhhnklaa
open Go.RowKit Go.ChangeShapes Go.WideShapes Go.ChangeAt Go.Joins
set_option maxHeartbeats 4000000
set_option maxRecDepth 100000
set_option linter.unusedSimpArgs false
set_option linter.unusedVariables false

theorem ownNone : ownKnob Try.prog.godebug = none := by kernel_rfl
theorem cGop : Try.prog.cellsOf 34 = 9 := by kernel_rfl
theorem list9 {cs : List Value} (h : cs.length = 9) : ∃ a b c d e f g i j, cs = [a, b, c, d, e, f, g, i, j] := by
  match cs, h with
  | [a, b, c, d, e, f, g, i, j], _ => exact ⟨a, b, c, d, e, f, g, i, j, rfl⟩
section
variable {H : Type} {enc : TypeId × Value → H}
variable {W : World} {n : Nat} {cs : List Value} {x : DataW H × List MemPlace}
theorem open_gop (h : DataW.trod enc Try.prog W 0 (fun _ => true) true n 34 cs = some x) (hw : ∀ m ∈ x.1.weights Try.prog 34, m ≤ reachBytes) :
    ∃ o : GOp, cs = [.int .i64 o.k, .int .i64 o.nd, .string o.e.key, .int .i64 o.e.ctr, .int .i64 o.e.node, .string o.e.val, .bool o.e.dead, o.lv, .bool o.snd] ∧ EntSl W o.lv o.l := by
  obtain ⟨y0, y1, y2, y3, y4, m, e, hl, h0, h1, h2, h3, h4⟩ := trod_struct5 Try.underlying34 h
  obtain ⟨c0, c1, c2, c3, c4, c5, c6, c7, c8, rfl⟩ := list9 (hl.trans cGop)
  simp only [cInt, cEnt, cEnts, cBool, Nat.reduceAdd, List.drop_zero, List.drop_succ_cons, List.take_succ_cons, List.take_zero] at h0 h1 h2 h3 h4
  obtain ⟨k, e0, -, -⟩ := DataW.trod_int Try.underlying3 h0
  obtain ⟨nd, e1, -, -⟩ := DataW.trod_int Try.underlying3 h1
  obtain ⟨en, e2⟩ := open_ent h2
  obtain ⟨sv, l, e3, hE⟩ := open_ents h3 (fun q hq => hw q (by
    rw [e]
    simp only [DataW.weights, Try.underlying34]
    exact DataW.weights_mem_each (j := 3) rfl rfl q hq))
  obtain ⟨sn, e4, -⟩ := DataW.trod_bool Try.underlying4 h4
  simp at e0 e1 e2 e3 e4
  obtain ⟨rfl, rfl, rfl, rfl, rfl⟩ := e2
  subst e0 e1 e3 e4
  exact ⟨⟨k, nd, en, _, l, sn⟩, rfl, hE⟩
theorem open_gopsV {W : World} {base : Nat} {v : Value} {d : DataW H} {p : List MemPlace} (hval : Value.okWide Try.prog W .any base 22 v)
    (h : DataW.Trod enc Try.prog W 0 (fun _ => true) true 22 v d p) (hw : ∀ m ∈ d.weights Try.prog 22, m ≤ reachBytes) : ∃ N : List GOp, GOpsSl W v N := by
  obtain ⟨a, len, cap, rfl⟩ := okWide_slice Try.underlying22 hval
  obtain ⟨fuel, hf⟩ := h
  obtain ⟨a', c, N, e, h1, h2, h3⟩ := open_list (α := GOp) (W := W) Try.underlying22 cGop (by omega) (of_decide_eq_true (by kernel_rfl)) (fun o cs => cs = [.int .i64 o.k, .int .i64 o.nd, .string o.e.key, .int .i64 o.e.ctr, .int .i64 o.e.node, .string o.e.val, .bool o.e.dead, o.lv, .bool o.snd] ∧ EntSl W o.lv o.l) (fun _ _ _ h h' => open_gop h h') hf hw
  simp only [Value.cells] at e hf
  simp at e
  obtain ⟨rfl, rfl, rfl⟩ := e
  refine ⟨N, a, cap, rfl, h1, Nat.le_trans h2 (by decide), fun hp => ?_⟩
  obtain ⟨b, o, rfl, hE⟩ := h3 hp
  refine ⟨b, o, rfl, fun i hi => ?_⟩
  obtain ⟨vs, -, ⟨rfl, hs⟩, hc⟩ := hE i hi
  exact ⟨by simpa using hc 0 (by omega), by simpa using hc 1 (by omega), by simpa using hc 2 (by omega), by simpa using hc 3 (by omega), by simpa using hc 4 (by omega), by simpa using hc 5 (by omega), by simpa using hc 6 (by omega), by simpa using hc 7 (by omega), by simpa using hc 8 (by omega), hs⟩
end
theorem ghostScript_lifted (os : Os) (started : os.Started) (H : Type) (enc : TypeId × Value → H) :
    ReturnsInHanded {} Try.checked os 3 .any (Rows.ghostScriptSpec.pre6 enc Try.prog Try.f3 Rows.ghostScriptRow.domain false) (Rows.ghostScriptSpec.post enc Try.prog Try.f3 false true false false) := by
  refine law_lift (C := Try.checked) (tb := 4) ownNone started (by kernel_rfl) Try.func3
    (ChangeSpec.witness6 (enc := enc) (C := Try.checked) false ⟨#[], #[.slice none 0 0], []⟩ 8 (by kernel_rfl) (by kernel_rfl) (by kernel_rfl) (by kernel_rfl))
    rfl (fun ds h => ?_) (by rfl) Try.underlying4 (by kernel_rfl) ?_ ?_
  · match ds, h with
    | [_], _ => rfl
  · intro t ht
    have e : t = 22 := by
      have : Try.f3.params.toList = [22] := by rfl
      rw [this] at ht; simpa using ht
    subst e
    exact ⟨by kernel_rfl, of_decide_eq_true (by kernel_rfl)⟩
  · intro W base args ds ps hval hA hw
    have hp : Try.f3.params = #[22] := by rfl
    rw [hp] at hA hval hw
    obtain ⟨v0, d0, rfl, rfl, h0⟩ := trodAll_one hA
    obtain ⟨L, hL⟩ := open_gopsV (hval 0 22 v0 rfl rfl) h0 (fun m hm => by
      have := List.all_eq_true.1 hw m (DataW.weights_mem_each (j := 0) rfl rfl m hm)
      simpa using this)
    exact ghostScript_walk L v0 W hL

theorem ghostScript_over : Rows.ghostScriptRow.holds Try.pinned (OpenSpec.ofChange Rows.ghostScriptSpec) :=
  OpenClaim.holds_of_wide 3 Try.f3 rfl rfl rfl rfl rfl rfl rfl ⟨rfl, rfl, rfl, rfl, rfl⟩ rfl rfl rfl rfl rfl (by kernel_rfl) Try.func3 (by kernel_rfl)
    (of_decide_eq_true (by kernel_rfl)) (by unfold Func.isWrapper; first | (rw [if_pos (by decide +kernel)]; kernel_rfl) | (rw [if_neg (by decide +kernel)]; exact ⟨rfl, rfl⟩))
    (fun os started H enc _ => ghostScript_lifted os started H enc)

theorem ghostScript_holds : Rows.GhostScriptSaid := ghostScript_over
#print axioms ghostScript_holds
end Go.Proofs.Ytiimoaplhhnklaa
