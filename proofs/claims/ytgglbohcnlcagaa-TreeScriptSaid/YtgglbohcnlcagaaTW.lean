/- From what a law's argument reads as to rows in memory. -/
import Derived.Test.YtgglbohcnlcagaaFO
import Derived.Test.YtgglbohcnlcagaaTU
namespace Go.Proofs.Ytgglbohcnlcagaa
open Go.RowKit Go.ChangeShapes Go.WideShapes Go.ChangeAt Go.Joins
set_option maxHeartbeats 4000000
set_option maxRecDepth 100000
set_option linter.unusedSimpArgs false
set_option linter.unusedVariables false

section
variable {H : Type} {enc : TypeId × Value → H}
theorem cRow : Try.prog.cellsOf 75 = 4 := by kernel_rfl
theorem cMap : Try.prog.cellsOf 62 = 2 := by kernel_rfl
theorem cU64 : Try.prog.cellsOf 34 = 1 := by kernel_rfl
theorem i64_of {n : Int} (h : (Lit.int .i64 n).wf = true) : -9223372036854775808 ≤ n ∧ n ≤ 9223372036854775807 := by
  have e1 : IntKind.i64.min = -9223372036854775808 := rfl
  have e2 : IntKind.i64.max = 9223372036854775807 := rfl
  simp only [Lit.wf, Bool.and_eq_true, decide_eq_true_eq, e1, e2] at h
  exact h
theorem u64_of {n : Int} (h : (Lit.int .u64 n).wf = true) : 0 ≤ n ∧ n < 18446744073709551616 := by
  have e1 : IntKind.u64.min = 0 := rfl
  have e2 : IntKind.u64.max = 18446744073709551615 := rfl
  simp only [Lit.wf, Bool.and_eq_true, decide_eq_true_eq, e1, e2] at h
  omega
/-- A slice is no longer than there is room. -/
theorem slice_room {P : Program} {W : World} {t e : TypeId} {n q : Nat} {a : Option Addr} {c : Nat} {x : DataW H × List MemPlace} (ht : P.underlying t = some (.slice e))
    (h : DataW.trod enc P W 0 (fun _ => true) true n t [.slice a q c] = some x) (hw : ∀ m ∈ x.1.weights P t, m ≤ reachBytes) : q * P.bytesOf e ≤ reachBytes := by
  rcases Go.Deep.open_slice ht h with ⟨hc, rfl⟩ | ⟨a', len, cap, m, n', D, Pl, hc, _, hl, hm, hmm, rfl, hx⟩
  · simp at hc
    obtain ⟨-, rfl, -⟩ := hc
    simp
  · have h1 := hw ((((List.range len).map D).length + ((List.range (m - len)).map fun j => D (len + j)).length) * P.bytesOf e) (by simp [DataW.weights, ht])
    rw [List.length_map, List.length_range] at h1
    simp at hc
    obtain ⟨-, rfl, -⟩ := hc
    exact Nat.le_trans (Nat.mul_le_mul (Nat.le_add_right _ _) (Nat.le_refl _)) h1
theorem bRow : Try.prog.bytesOf 75 = 40 := by kernel_rfl
instance : Inhabited R1 := ⟨⟨⟨#[]⟩, 0, 0, 0⟩⟩
theorem list4 {cs : List Value} (h : cs.length = 4) : ∃ a b c d, cs = [a, b, c, d] := by
  match cs, h with
  | [a, b, c, d], _ => exact ⟨a, b, c, d, rfl⟩
variable {W : World} {n : Nat} {cs : List Value} {x : DataW H × List MemPlace}
theorem open_map (h : DataW.trod enc Try.prog W 0 (fun _ => true) true n 62 cs = some x) : ∃ s : Int × Int, cs = [.int .u64 s.1, .int .u64 s.2] ∧ InM s := by
  obtain ⟨y0, y1, m, -, hl, h0, h1⟩ := trod_struct2 Try.underlying62 h
  obtain ⟨c0, c1, rfl⟩ := list2 (hl.trans cMap)
  simp only [cU64, List.drop_zero, List.drop_succ_cons, List.take_succ_cons, List.take_zero] at h0 h1
  obtain ⟨a, e0, -, r0⟩ := DataW.trod_int Try.underlying34 h0
  obtain ⟨b, e1, -, r1⟩ := DataW.trod_int Try.underlying34 h1
  simp at e0 e1
  subst e0 e1
  exact ⟨(a, b), rfl, u64_of r0, u64_of r1⟩
theorem open_row (h : DataW.trod enc Try.prog W 0 (fun _ => true) true n 75 cs = some x) :
    ∃ r : R1, cs = [.string r.1, .int .i64 r.2.1, .int .u64 r.2.2.1, .int .u64 r.2.2.2] ∧ InM r.2.2 ∧ (-9223372036854775808 ≤ r.2.1 ∧ r.2.1 ≤ 9223372036854775807) := by
  obtain ⟨y0, y1, y2, m, -, hl, h0, h1, h2⟩ := Go.Deep.trod_struct3 Try.underlying75 h
  obtain ⟨c0, c1, c2, c3, rfl⟩ := list4 (hl.trans cRow)
  simp only [cStr, cInt, cMap, List.drop_zero, List.drop_succ_cons, List.take_succ_cons, List.take_zero] at h0 h1 h2
  obtain ⟨key, e0, -, -⟩ := DataW.trod_string Try.underlying9 h0
  obtain ⟨v, e1, -, r1⟩ := DataW.trod_int Try.underlying3 h1
  obtain ⟨s, e2, hs⟩ := open_map h2
  simp at e0 e1 e2
  obtain ⟨rfl, rfl⟩ := e2
  subst e0 e1
  exact ⟨(key, v, s), rfl, hs, i64_of r1⟩
theorem open_rows (h : DataW.trod enc Try.prog W 0 (fun _ => true) true n 55 cs = some x) (hw : ∀ m ∈ x.1.weights Try.prog 55, m ≤ reachBytes) : ∃ v L, cs = [v] ∧ RowsSl W v L ∧ ∀ r ∈ L, InM r.2.2 := by
  obtain ⟨a, c, L, rfl, h1, h2, h3⟩ := open_list (α := R1) Try.underlying55 cRow (by omega) (of_decide_eq_true (by kernel_rfl)) (fun r cs => cs = [.string r.1, .int .i64 r.2.1, .int .u64 r.2.2.1, .int .u64 r.2.2.2] ∧ InM r.2.2) (fun _ _ _ h _ => by
    obtain ⟨r, e, hr, -⟩ := open_row h
    exact ⟨r, e, hr⟩) h hw
  have hroom := slice_room Try.underlying55 h hw
  rw [bRow] at hroom
  refine ⟨_, L, rfl, ⟨a, c, rfl, h1, by unfold reachBytes at hroom; omega, fun hp => ?_⟩, ?_⟩
  · obtain ⟨b, o, rfl, hE⟩ := h3 hp
    refine ⟨b, o, rfl, fun i hi => ?_⟩
    obtain ⟨vs, -, ⟨rfl, -⟩, hc⟩ := hE i hi
    exact ⟨by simpa using hc 0 (by omega), by simpa using hc 1 (by omega), by simpa using hc 2 (by omega), by simpa using hc 3 (by omega)⟩
  · intro r hr
    obtain ⟨i, hi, rfl⟩ := List.getElem_of_mem hr
    obtain ⟨b, o, -, hE⟩ := h3 (by omega)
    obtain ⟨vs, -, ⟨-, h⟩, -⟩ := hE i hi
    exact h
theorem open_rowsV {W : World} {base : Nat} {v : Value} {d : DataW H} {p : List MemPlace} (hval : Value.okWide Try.prog W .any base 55 v)
    (h : DataW.Trod enc Try.prog W 0 (fun _ => true) true 55 v d p) (hw : ∀ m ∈ d.weights Try.prog 55, m ≤ reachBytes) :
    ∃ L : List R1, RowsSl W v L ∧ ∀ r ∈ L, InM r.2.2 := by
  obtain ⟨a, len, cap, rfl⟩ := okWide_slice Try.underlying55 hval
  obtain ⟨fuel, hf⟩ := h
  obtain ⟨v', L, e, hP⟩ := open_rows hf hw
  simp only [Value.cells] at e
  simp at e
  subst e
  exact ⟨L, hP⟩
theorem open_cutsV {W : World} {base : Nat} {v : Value} {d : DataW H} {p : List MemPlace} (hval : Value.okWide Try.prog W .any base 56 v)
    (h : DataW.Trod enc Try.prog W 0 (fun _ => true) true 56 v d p) :
    ∃ c0 c1 c2 : Int, v = .agg #[.int .i64 c0, .int .i64 c1, .int .i64 c2] ∧ (-9223372036854775808 ≤ c0 ∧ c0 ≤ 9223372036854775807) ∧ (-9223372036854775808 ≤ c1 ∧ c1 ≤ 9223372036854775807) ∧ (-9223372036854775808 ≤ c2 ∧ c2 ≤ 9223372036854775807) := by
  obtain ⟨cs, rfl, hsz⟩ : ∃ cs, v = .agg cs ∧ cs.size = 3 := by
    simp only [Value.okWide, Try.underlying56] at hval
    obtain ⟨cs, h1, h2, _⟩ := hval
    exact ⟨cs, h1, h2.trans (by kernel_rfl)⟩
  obtain ⟨fuel, hf⟩ := h
  obtain ⟨xs, m, -, -, -, hl, hxs⟩ := DataW.trod_array Try.underlying56 hf
  have k0 := hxs 0 (by omega)
  have k1 := hxs 1 (by omega)
  have k2 := hxs 2 (by omega)
  obtain ⟨c0, c1, c2, hcs⟩ := list3 (show cs.toList.length = 3 by simpa using hsz)
  obtain ⟨z0, z1, z2, rfl⟩ : ∃ z0 z1 z2, xs = [z0, z1, z2] := by
    match xs, hl with
    | [z0, z1, z2], _ => exact ⟨z0, z1, z2, rfl⟩
  simp only [Value.cells, hcs, cInt, Nat.zero_mul, Nat.one_mul, List.drop_zero, List.drop_succ_cons, List.take_succ_cons, List.take_zero, List.getElem?_cons_zero, List.getElem?_cons_succ] at k0 k1 k2
  obtain ⟨a, e0, -, r0⟩ := DataW.trod_int Try.underlying3 k0
  obtain ⟨b, e1, -, r1⟩ := DataW.trod_int Try.underlying3 k1
  obtain ⟨c, e2, -, r2⟩ := DataW.trod_int Try.underlying3 k2
  simp at e0 e1 e2
  subst e0 e1 e2
  exact ⟨a, b, c, by rw [← Array.toArray_toList (xs := cs), hcs], i64_of r0, i64_of r1, i64_of r2⟩
end
end Go.Proofs.Ytgglbohcnlcagaa
