/- From what a law's argument reads as to lists in memory: the parts that lean on no type of the program. -/
import Derived.Test.YtiimoaplhhnklaaProg
import Derived.Test.YtiimoaplhhnklaaReg
import Derived.WalkKit
import Derived.KernelRfl
import Derived.ProofKit
import Derived.OpenShut
import Derived.Deep.Slices
import Derived.Lib.SmallJoins
namespace Go.Proofs.Ytiimoaplhhnklaa
open Go.RowKit Go.ChangeShapes Go.WideShapes Go.ChangeAt Go.Joins
set_option maxHeartbeats 4000000
set_option maxRecDepth 100000
set_option linter.unusedSimpArgs false
set_option linter.unusedVariables false

section
variable {H : Type} {enc : TypeId × Value → H}

theorem weightsAll_in {P : Program} {e : TypeId} {d : DataW H} : ∀ {l : List (DataW H)}, d ∈ l → ∀ n ∈ d.weights P e, n ∈ DataW.weightsAll P e l
  | d0 :: l, hd, n, hn => by
    simp only [DataW.weightsAll, List.mem_append]
    rcases List.mem_cons.1 hd with rfl | h
    · exact Or.inl hn
    · exact Or.inr (weightsAll_in h n hn)
  | [], hd, _, _ => by cases hd

theorem add_at {a : Addr} (hs : a.spot = none) (n : Nat) : a.add n = ⟨a.block, a.off + n, none⟩ := by
  obtain ⟨b, o, s⟩ := a
  subst hs
  unfold Addr.add
  split
  · rename_i h; subst h; rfl
  · rfl

/-- A list in memory, whatever its elements are. -/
theorem open_list {α : Type} [Inhabited α] {P : Program} {W : World} {t e : TypeId} {n : Nat} {cs : List Value} {x : DataW H × List MemPlace} (ht : P.underlying t = some (.slice e)) {k : Nat} (hk : P.cellsOf e = k) (hk0 : 0 < k) (hby : 0 < P.bytesOf e)
    (R : α → List Value → Prop)
    (hopen : ∀ n cs x, DataW.trod enc P W 0 (fun _ => true) true n e cs = some x → (∀ m ∈ x.1.weights P e, m ≤ reachBytes) → ∃ y, R y cs)
    (h : DataW.trod enc P W 0 (fun _ => true) true n t cs = some x) (hw : ∀ m ∈ x.1.weights P t, m ≤ reachBytes) :
    ∃ (a : Option Addr) (c : Nat) (l : List α), cs = [.slice a l.length c] ∧ l.length ≤ c ∧ l.length ≤ reachBytes ∧
      (0 < l.length → ∃ b o, a = some ⟨b, o, none⟩ ∧ ∀ i, (h : i < l.length) → ∃ vs, vs.length = k ∧ R l[i] vs ∧ ∀ j, j < k → W.cell? ⟨b, o + i * k + j, none⟩ = vs[j]?) := by
  rcases Go.Deep.open_slice ht h with ⟨rfl, rfl⟩ | ⟨a, len, cap, m, n', D, Pl, rfl, _, hl, hm, hmm, rfl, hx⟩
  · exact ⟨none, 0, [], rfl, Nat.le_refl _, Nat.zero_le _, fun h => absurd h (by simp)⟩
  have hlm : len ≤ m := by rw [hmm]; split <;> omega
  have hbound : len ≤ reachBytes := by
    have h1 := hw ((((List.range len).map D).length + ((List.range (m - len)).map fun j => D (len + j)).length) * P.bytesOf e) (by simp [DataW.weights, ht])
    rw [List.length_map, List.length_range] at h1
    have h2 : len * 1 ≤ (len + ((List.range (m - len)).map fun j => D (len + j)).length) * P.bytesOf e := Nat.mul_le_mul (by omega) hby
    omega
  have each : ∀ i, i < len → ∃ y : α, ∃ vs, vs.length = k ∧ R y vs ∧ ∀ j, j < k → W.cell? ((a.add (i * k)).add j) = vs[j]? := by
    intro i hi
    obtain ⟨cs', h1, h2⟩ := hx i (by omega)
    rw [hk] at h1
    obtain ⟨_, hlen, hcell⟩ := World.cells?_some h1
    obtain ⟨y, hy⟩ := hopen _ _ _ h2 (fun q hq => hw q (by
      simp only [DataW.weights, ht, List.mem_cons, List.mem_append]
      exact Or.inr (Or.inl (weightsAll_in (List.mem_map.2 ⟨i, List.mem_range.2 hi, rfl⟩) q hq))))
    exact ⟨y, cs', hlen, hy, fun j hj => by have := hcell j hj; simpa using this⟩
  obtain ⟨f, hf⟩ := Go.Deep.choose_lt each
  refine ⟨some a, cap, (List.range len).map f, by simp, by simpa using hl, by simpa using hbound, fun hp => ?_⟩
  have hp' : 0 < len := by simpa using hp
  have hspot : a.spot = none := by
    obtain ⟨vs, hvl, -, hc⟩ := hf 0 hp'
    have h0 := hc 0 hk0
    rw [Nat.zero_mul, List.getElem?_eq_getElem (by omega)] at h0
    have e : (a.add 0).add 0 = a := by simp [Addr.add]
    rw [e] at h0
    unfold World.cell? at h0
    split at h0
    · split at h0
      · cases h0
      · rename_i h; simpa using h
    · cases h0
  obtain ⟨b, o, s⟩ := a
  cases hspot
  refine ⟨b, o, rfl, fun i hi => ?_⟩
  have hi' : i < len := by simpa using hi
  obtain ⟨vs, hvl, hR, hc⟩ := hf i hi'
  refine ⟨vs, hvl, by simpa using hR, fun j hj => ?_⟩
  rw [← hc j hj, add_at (a := ⟨b, o, none⟩) rfl, add_at rfl]

theorem i64_of {n : Int} (h : (Lit.int .i64 n).wf = true) : -9223372036854775808 ≤ n ∧ n ≤ 9223372036854775807 := by
  have e1 : IntKind.i64.min = -9223372036854775808 := rfl
  have e2 : IntKind.i64.max = 9223372036854775807 := rfl
  simp only [Lit.wf, Bool.and_eq_true, decide_eq_true_eq, e1, e2] at h
  exact h
theorem u64_of {n : Int} (h : (Lit.int .u64 n).wf = true) : 0 ≤ n ∧ n < 18446744073709551616 := by
  have e1 : IntKind.u64.min = 0 := rfl
  have e2 : IntKind.u64.max = 18446744073709551615 := rfl
  simp only [Lit.wf, Bool.and_eq_true, decide_eq_true_eq, e1, e2] at h
  omega
/-- A slice is no longer than there is room. -/
theorem slice_room {P : Program} {W : World} {t e : TypeId} {n q : Nat} {a : Option Addr} {c : Nat} {x : DataW H × List MemPlace} (ht : P.underlying t = some (.slice e))
    (h : DataW.trod enc P W 0 (fun _ => true) true n t [.slice a q c] = some x) (hw : ∀ m ∈ x.1.weights P t, m ≤ reachBytes) : q * P.bytesOf e ≤ reachBytes := by
  rcases Go.Deep.open_slice ht h with ⟨hc, rfl⟩ | ⟨a', len, cap, m, n', D, Pl, hc, _, hl, hm, hmm, rfl, hx⟩
  · simp at hc
    obtain ⟨-, rfl, -⟩ := hc
    simp
  · have h1 := hw ((((List.range len).map D).length + ((List.range (m - len)).map fun j => D (len + j)).length) * P.bytesOf e) (by simp [DataW.weights, ht])
    rw [List.length_map, List.length_range] at h1
    simp at hc
    obtain ⟨-, rfl, -⟩ := hc
    exact Nat.le_trans (Nat.mul_le_mul (Nat.le_add_right _ _) (Nat.le_refl _)) h1
theorem list2 {cs : List Value} (h : cs.length = 2) : ∃ a b, cs = [a, b] := by
  match cs, h with
  | [a, b], _ => exact ⟨a, b, rfl⟩
theorem list3 {cs : List Value} (h : cs.length = 3) : ∃ a b c, cs = [a, b, c] := by
  match cs, h with
  | [a, b, c], _ => exact ⟨a, b, c, rfl⟩
theorem list4 {cs : List Value} (h : cs.length = 4) : ∃ a b c d, cs = [a, b, c, d] := by
  match cs, h with
  | [a, b, c, d], _ => exact ⟨a, b, c, d, rfl⟩
theorem list5 {cs : List Value} (h : cs.length = 5) : ∃ a b c d e, cs = [a, b, c, d, e] := by
  match cs, h with
  | [a, b, c, d, e], _ => exact ⟨a, b, c, d, e, rfl⟩
theorem cInt : Try.prog.cellsOf 3 = 1 := by kernel_rfl
theorem cStr : Try.prog.cellsOf 9 = 1 := by kernel_rfl
theorem cBool : Try.prog.cellsOf 4 = 1 := by kernel_rfl
theorem ownNone : ownKnob Try.prog.godebug = none := by kernel_rfl
end
end Go.Proofs.Ytiimoaplhhnklaa
