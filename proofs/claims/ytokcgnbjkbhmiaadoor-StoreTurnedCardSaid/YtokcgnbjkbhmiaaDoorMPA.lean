/- Stores as plain data: entries by rising keys; what lies under a key; what is laid; sums of parts. Trees as plain data: they are even; of how many pieces a fold is made. Stores as plain data: what a store holds, and what each of its calls does to it. Stores as plain data: what a tree over a store's rows tells; the examples of the document. Stores as plain data: entries that are all taken make the same map, in whatever order they come. -/
import Derived.Test.YtokcgnbjkbhmiaaDoorMTL
import Derived.Test.YtokcgnbjkbhmiaaDoorMKE
import Derived.Laws.Bits64
import Derived.Test.YtokcgnbjkbhmiaaDoorMTP
namespace Go.Proofs.YtokcgnbjkbhmiaaDoor
open Go.RowKit Go.Lib
set_option maxHeartbeats 4000000
set_option maxRecDepth 100000
set_option linter.unusedSimpArgs false
set_option linter.unusedVariables false

abbrev Tal3 := Int × Int × Int
def tal1 (e : Ent) : Tal3 := (1, entS0 e, entS1 e)
abbrev rowE (e : Ent) : Rw Ent Tal3 := (e.key, e, tal1 e)
abbrev rowsE (l : List Ent) : List (Rw Ent Tal3) := l.map rowE
def SrtE (l : List Ent) : Prop := l.Pairwise (fun a b => blt a.key b.key)
def insE (e : Ent) : List Ent → List Ent
  | [] => [e]
  | x :: L => if blt x.key e.key then x :: insE e L else if blt e.key x.key then e :: x :: L else e :: L
def fndE (k : ByteArray) (l : List Ent) : Option Ent := l.find? fun x => decide (x.key = k)
def cntE (k : ByteArray) (l : List Ent) : Nat := l.countP fun x => Op.bytesLess x.key.toList k.toList
theorem srt_rowE {l : List Ent} : Srt (rowsE l) ↔ SrtE l := by unfold Srt SrtE rowsE; rw [List.pairwise_map]
theorem ins_rowE (e : Ent) : ∀ l : List Ent, ins e.key e (tal1 e) (rowsE l) = rowsE (insE e l)
  | [] => rfl
  | x :: L => by
    have ih := ins_rowE e L
    simp only [rowsE, List.map_cons, ins, insE] at ih ⊢
    split
    · rw [List.map_cons, ih]
    · split <;> rfl
theorem fnd_rowE (k : ByteArray) : ∀ l : List Ent, fnd k (rowsE l) = (fndE k l).map rowE
  | [] => rfl
  | x :: L => by
    have ih := fnd_rowE k L
    unfold fnd fndE rowsE at ih ⊢
    rw [List.map_cons, List.find?_cons, List.find?_cons]
    cases h : decide (x.key = k) with
    | true => rfl
    | false => exact ih
theorem cnt_rowE (k : ByteArray) (l : List Ent) : cnt k (rowsE l) = cntE k l := by unfold cnt cntE rowsE; rw [List.countP_map]; rfl
theorem rowsE_len (l : List Ent) : (rowsE l).length = l.length := by simp [rowsE]
theorem insE_srt {e : Ent} {l : List Ent} (h : SrtE l) : SrtE (insE e l) := by rw [← srt_rowE, ← ins_rowE]; exact ins_srt (srt_rowE.2 h)
theorem insE_mem {e x : Ent} : ∀ {l : List Ent}, x ∈ insE e l → x = e ∨ x ∈ l
  | [], h => by simpa [insE] using h
  | y :: L, h => by
    simp only [insE] at h
    split at h
    · rcases List.mem_cons.1 h with h | h
      · exact .inr (by simp [h])
      · rcases insE_mem h with h | h
        · exact .inl h
        · exact .inr (List.mem_cons_of_mem _ h)
    · split at h
      · rcases List.mem_cons.1 h with h | h
        · exact .inl h
        · exact .inr h
      · rcases List.mem_cons.1 h with h | h
        · exact .inl h
        · exact .inr (List.mem_cons_of_mem _ h)
theorem fndE_some {k : ByteArray} {l : List Ent} {x : Ent} (h : fndE k l = some x) : x.key = k ∧ x ∈ l := by
  unfold fndE at h
  exact ⟨by simpa using List.find?_some h, List.mem_of_find?_eq_some h⟩
theorem fndE_none {k : ByteArray} {l : List Ent} : fndE k l = none ↔ ∀ x ∈ l, x.key ≠ k := by
  unfold fndE
  rw [List.find?_eq_none]
  simp
theorem fndE_ins {e : Ent} (q : ByteArray) {l : List Ent} (h : SrtE l) : fndE q (insE e l) = if q = e.key then some e else fndE q l := by
  have h1 := fnd_ins (k := e.key) (v := e) (s := tal1 e) q (srt_rowE.2 h)
  rw [ins_rowE, fnd_rowE, fnd_rowE] at h1
  have inj : ∀ a b : Option Ent, a.map rowE = b.map rowE → a = b := by
    intro a b h
    cases a <;> cases b <;> simp_all
  by_cases hq : q = e.key
  · rw [if_pos hq] at h1 ⊢
    exact inj _ _ h1
  · rw [if_neg hq] at h1 ⊢
    exact inj _ _ h1
theorem insE_len {e : Ent} : ∀ {l : List Ent}, SrtE l → (insE e l).length = if (fndE e.key l).isSome then l.length else l.length + 1
  | [], _ => rfl
  | x :: L, h => by
    have h' := List.pairwise_cons.1 h
    have ih := insE_len (e := e) h'.2
    simp only [insE]
    by_cases h1 : blt x.key e.key
    · have hne : ¬ x.key = e.key := by rintro he; rw [he] at h1; exact blt_irrefl _ h1
      have hf : fndE e.key (x :: L) = fndE e.key L := by unfold fndE; rw [List.find?_cons, show decide (x.key = e.key) = false from decide_eq_false hne]
      rw [if_pos h1, List.length_cons, ih, hf]
      split <;> simp
    · rw [if_neg h1]
      by_cases h2 : blt e.key x.key
      · have hf : fndE e.key (x :: L) = none := fndE_none.2 fun y hy => by
          rcases List.mem_cons.1 hy with rfl | hy
          · rintro he; rw [he] at h2; exact blt_irrefl _ h2
          · rintro he; have h3 := blt_trans h2 (h'.1 y hy); rw [he] at h3; exact blt_irrefl _ h3
        rw [if_pos h2, hf]
        simp
      · have he := blt_eq h1 h2
        have hf : fndE e.key (x :: L) = some x := by unfold fndE; rw [List.find?_cons, show decide (x.key = e.key) = true from decide_eq_true he]
        rw [if_neg h2, hf]
        simp
/-! ### what the document reckons: a place -/
def plcE (k : ByteArray) (l : List Ent) : Nat := (l.takeWhile fun x => Op.bytesLess x.key.toList k.toList).length
def isE (k : ByteArray) (l : List Ent) : Bool := match l[plcE k l]? with | some x => x.key.toList == k.toList | none => false
theorem plcE_le (k : ByteArray) (l : List Ent) : plcE k l ≤ l.length := (List.takeWhile_sublist _).length_le
theorem bytes_beq {a b : ByteArray} : (a.toList == b.toList) = decide (a = b) := by
  rw [Bool.eq_iff_iff, beq_iff_eq, decide_eq_true_iff]
  exact ⟨ba_ext, fun h => by rw [h]⟩
theorem isE_cons_lt {k : ByteArray} {x : Ent} {L : List Ent} (h : blt x.key k) : plcE k (x :: L) = plcE k L + 1 ∧ isE k (x :: L) = isE k L := by
  have h1 : plcE k (x :: L) = plcE k L + 1 := by unfold plcE; rw [List.takeWhile_cons, if_pos h]; simp
  exact ⟨h1, by unfold isE; rw [h1, List.getElem?_cons_succ]⟩
theorem isE_cons_ge {k : ByteArray} {x : Ent} {L : List Ent} (h : ¬ blt x.key k) : plcE k (x :: L) = 0 ∧ isE k (x :: L) = decide (x.key = k) := by
  have h1 : plcE k (x :: L) = 0 := by unfold plcE; rw [List.takeWhile_cons, if_neg h]; rfl
  exact ⟨h1, by unfold isE; rw [h1]; exact bytes_beq⟩
theorem laidE (e : Ent) : ∀ l : List Ent, l.take (plcE e.key l) ++ e :: l.drop (plcE e.key l + if isE e.key l then 1 else 0) = insE e l
  | [] => rfl
  | x :: L => by
    have ih := laidE e L
    simp only [insE]
    by_cases h1 : blt x.key e.key
    · obtain ⟨e1, e2⟩ := isE_cons_lt (L := L) h1
      rw [if_pos h1, e1, e2, List.take_succ_cons, ← ih, List.cons_append, show plcE e.key L + 1 + (if isE e.key L = true then 1 else 0) = (plcE e.key L + if isE e.key L = true then 1 else 0) + 1 by omega, List.drop_succ_cons]
    · obtain ⟨e1, e2⟩ := isE_cons_ge (L := L) h1
      rw [if_neg h1, e1, e2]
      by_cases h2 : blt e.key x.key
      · have hne : ¬ x.key = e.key := by rintro he; rw [he] at h2; exact blt_irrefl _ h2
        rw [if_pos h2]
        simp [hne]
      · have he := blt_eq h1 h2
        rw [if_neg h2]
        simp [he]
theorem isE_fnd {k : ByteArray} : ∀ {l : List Ent}, SrtE l → isE k l = (fndE k l).isSome ∧ (isE k l = true → l[plcE k l]? = fndE k l)
  | [], _ => ⟨rfl, fun h => by cases h⟩
  | x :: L, h => by
    have h' := List.pairwise_cons.1 h
    have ih := isE_fnd (k := k) h'.2
    by_cases h1 : blt x.key k
    · obtain ⟨e1, e2⟩ := isE_cons_lt (L := L) h1
      have hne : ¬ x.key = k := by rintro rfl; exact blt_irrefl _ h1
      have hf : fndE k (x :: L) = fndE k L := by unfold fndE; rw [List.find?_cons, show decide (x.key = k) = false from decide_eq_false hne]
      rw [e2, hf, e1, List.getElem?_cons_succ]
      exact ih
    · obtain ⟨e1, e2⟩ := isE_cons_ge (L := L) h1
      rw [e2, e1]
      by_cases he : x.key = k
      · have hf : fndE k (x :: L) = some x := by unfold fndE; rw [List.find?_cons, show decide (x.key = k) = true from decide_eq_true he]
        rw [hf]
        exact ⟨by simp [he], fun _ => rfl⟩
      · have h2 : blt k x.key := by
          rcases hb : Op.bytesLess k.toList x.key.toList with _ | _
          · exact absurd (blt_eq h1 (by simp [blt, hb])) he
          · exact hb
        have hf : fndE k (x :: L) = none := fndE_none.2 fun y hy => by
          rcases List.mem_cons.1 hy with rfl | hy
          · exact he
          · rintro hk; have h3 := blt_trans h2 (h'.1 y hy); rw [hk] at h3; exact blt_irrefl _ h3
        rw [hf]
        simp [he]
/-! ### a row of a range -/
theorem filter_mono {α : Type} {p : α → Bool} : ∀ {l : List α}, l.Pairwise (fun a b => p b = true → p a = true) → l.filter p = l.take (l.countP p) ∧ (l.filter fun x => !p x) = l.drop (l.countP p)
  | [], _ => ⟨rfl, rfl⟩
  | x :: L, h => by
    have h' := List.pairwise_cons.1 h
    obtain ⟨h1, h2⟩ := filter_mono h'.2
    cases hp : p x with
    | true =>
      rw [List.countP_cons_of_pos hp, List.filter_cons_of_pos hp, List.take_succ_cons, List.drop_succ_cons, List.filter_cons_of_neg (by simp [hp]), ← h1]
      exact ⟨rfl, h2⟩
    | false =>
      have h0 : L.countP p = 0 := List.countP_eq_zero.2 fun y hy hq => by rw [h'.1 y hy hq] at hp; cases hp
      rw [h0] at h1 h2
      rw [List.countP_cons_of_neg (by simp [hp]), List.filter_cons_of_neg (by simp [hp]), h0, List.filter_cons_of_pos (by simp [hp]), h1, h2]
      exact ⟨rfl, rfl⟩
theorem srt_mono {l : List Ent} (h : SrtE l) (k : ByteArray) : l.Pairwise (fun a b => Op.bytesLess b.key.toList k.toList = true → Op.bytesLess a.key.toList k.toList = true) :=
  h.imp fun {a b} h1 h2 => blt_trans h1 h2
theorem drop_srt {l : List Ent} (h : SrtE l) (n : Nat) : SrtE (l.drop n) := h.sublist (List.drop_sublist _ _)
def hiE (hi : ByteArray) (op : Bool) (l : List Ent) : Nat := if op then l.length else cntE hi l
theorem cntE_le (k : ByteArray) (l : List Ent) : cntE k l ≤ l.length := List.countP_le_length
theorem hiE_le (hi : ByteArray) (op : Bool) (l : List Ent) : hiE hi op l ≤ l.length := by unfold hiE; split; exact Nat.le_refl _; exact cntE_le _ _
theorem cnt_take {α : Type} {p : α → Bool} : ∀ {l : List α}, l.Pairwise (fun a b => p b = true → p a = true) → ∀ n, (l.take n).countP p = min n (l.countP p)
  | [], _, n => by simp
  | x :: L, h, 0 => by simp
  | x :: L, h, n + 1 => by
    have h' := List.pairwise_cons.1 h
    have ih := cnt_take h'.2 n
    rw [List.take_succ_cons]
    cases hp : p x with
    | true => rw [List.countP_cons_of_pos hp, List.countP_cons_of_pos hp, ih]; omega
    | false =>
      have h0 : L.countP p = 0 := List.countP_eq_zero.2 fun y hy hq => by rw [h'.1 y hy hq] at hp; cases hp
      rw [List.countP_cons_of_neg (by simp [hp]), List.countP_cons_of_neg (by simp [hp]), ih, h0]; omega
/-- The entries of a range lie side by side. -/
theorem sl_range {l : List Ent} (h : SrtE l) (hk : ∀ x ∈ l, x.key.size ≤ 16) {lo hi : ByteArray} {op : Bool} (hr : rngCheck lo hi op = 0) : sl l (cntE lo l) (hiE hi op l) = inF lo hi op l := by
  have e1 : ∀ x ∈ l, holdE lo hi op x = (!Op.bytesLess x.key.toList lo.toList && (op || Op.bytesLess x.key.toList hi.toList)) := fun x hx => by
    unfold holdE rngHolds
    have := hk x hx
    rw [hr, show decide ((x.key.size : Int) ≤ 16) = true from decide_eq_true (by omega)]
    simp
  have e2 : inF lo hi op l = (l.filter fun x => (op || Op.bytesLess x.key.toList hi.toList)).filter fun x => !Op.bytesLess x.key.toList lo.toList := by
    unfold inF
    rw [List.filter_filter]
    exact List.filter_congr e1
  rw [e2]
  unfold sl hiE
  cases op with
  | true =>
    have e3 : (l.filter fun x => (true || Op.bytesLess x.key.toList hi.toList)) = l := List.filter_eq_self.2 fun _ _ => rfl
    rw [e3]
    simp only [if_true, List.take_length]
    exact ((filter_mono (srt_mono h lo)).2).symm
  | false =>
    simp only [Bool.false_or, Bool.false_eq_true, if_false]
    rw [(filter_mono (srt_mono h hi)).1]
    have h3 : SrtE (l.take (cntE hi l)) := h.sublist (List.take_sublist _ _)
    rw [show (l.countP fun x => Op.bytesLess x.key.toList hi.toList) = cntE hi l from rfl, (filter_mono (srt_mono h3 lo)).2]
    have h4 : (l.take (cntE hi l)).countP (fun x => Op.bytesLess x.key.toList lo.toList) = min (cntE hi l) (cntE lo l) := cnt_take (srt_mono h lo) _
    rw [h4]
    rcases Nat.le_total (cntE lo l) (cntE hi l) with h5 | h5
    · rw [Nat.min_eq_right h5]
    · rw [Nat.min_eq_left h5, List.drop_eq_nil_of_le (by simp; omega), List.drop_eq_nil_of_le (by simp; omega)]
/-! ### sums -/
def J4 (a b : Tal3) : Tal3 := (IntKind.i64.wrap (a.1 + b.1), IntKind.u64.wrap (a.2.1 + b.2.1), IntKind.u64.wrap (a.2.2 + b.2.2))
theorem wrapI_eq (n : Int) : IntKind.i64.wrap n = wrap64 n := by rw [IntKind.wrap_i64]; first | rfl | (unfold wrap64; omega)
theorem wrapU_eq (n : Int) : IntKind.u64.wrap n = n % 18446744073709551616 := by simp [IntKind.wrap, IntKind.bits, IntKind.signed]
theorem J4_assoc (a b c : Tal3) : J4 (J4 a b) c = J4 a (J4 b c) := by
  unfold J4
  simp only [wrapI_eq, wrapU_eq, Prod.mk.injEq]
  refine ⟨?_, ?_, ?_⟩
  · unfold wrap64; omega
  · omega
  · omega
theorem u64_lt (x : Int) : 0 ≤ IntKind.u64.wrap x ∧ IntKind.u64.wrap x < 18446744073709551616 := by rw [wrapU_eq]; omega
def talL (l : List Ent) : Tal3 := ((l.length : Int), sum0 l, sum1 l)
theorem stirI_lt (F x w : Int) (d : Nat) : 0 ≤ stirI F (d : Int) x w ∧ stirI F (d : Int) x w < 18446744073709551616 := by
  unfold stirI
  obtain ⟨h1, h2⟩ := u64_lt (bits .xor .u64 x w * F)
  generalize IntKind.u64.wrap (bits .xor .u64 x w * F) = X at *
  obtain ⟨n, rfl⟩ := Int.eq_ofNat_of_zero_le h1
  have hn : n < 18446744073709551616 := by omega
  rw [xorShift_u64 n d hn]
  have h3 : n ^^^ n / d < 2 ^ 64 := Nat.xor_lt_two_pow hn (Nat.lt_of_le_of_lt (Nat.div_le_self _ _) hn)
  have h4 : (2 : Nat) ^ 64 = 18446744073709551616 := by decide
  omega
theorem laneI_lt (F : Int) (d : Nat) : ∀ (ws : List Int) (x : Int), 0 ≤ x ∧ x < 18446744073709551616 → 0 ≤ laneI F (d : Int) x ws ∧ laneI F (d : Int) x ws < 18446744073709551616
  | [], _, h => h
  | w :: ws, x, _ => laneI_lt F d ws (stirI F (d : Int) x w) (stirI_lt F x w d)
theorem entS0_lt (e : Ent) : 0 ≤ entS0 e ∧ entS0 e < 18446744073709551616 := laneI_lt _ 536870912 _ _ (by omega)
theorem entS1_lt (e : Ent) : 0 ≤ entS1 e ∧ entS1 e < 18446744073709551616 := laneI_lt _ 4294967296 _ _ (by omega)
theorem foldl_tal : ∀ (l : List Ent) (c : Nat) (x y : Int), c + l.length ≤ 4611686018427387904 →
    (l.map tal1).foldl J4 ((c : Int), x, y) = (((c + l.length : Nat) : Int), l.foldl (fun s e => IntKind.u64.wrap (s + entS0 e)) x, l.foldl (fun s e => IntKind.u64.wrap (s + entS1 e)) y)
  | [], c, x, y, _ => rfl
  | e :: l, c, x, y, h => by
    rw [List.length_cons] at h
    have hc : IntKind.i64.wrap ((c : Int) + 1) = ((c + 1 : Nat) : Int) := by rw [wrapI_eq]; unfold wrap64; omega
    rw [List.map_cons, List.foldl_cons, show J4 ((c : Int), x, y) (tal1 e) = (((c + 1 : Nat) : Int), IntKind.u64.wrap (x + entS0 e), IntKind.u64.wrap (y + entS1 e)) by unfold J4 tal1; rw [hc], foldl_tal l (c + 1) _ _ (by omega), List.foldl_cons, List.foldl_cons, List.length_cons, show c + 1 + l.length = c + (l.length + 1) by omega]
theorem foldP_tal (l : List Ent) (h : l.length ≤ 4611686018427387900) : foldP J4 (0, 0, 0) (l.map tal1) = talL l := by
  cases l with
  | nil => rfl
  | cons e l =>
    have h1 := foldl_tal l 1 (entS0 e) (entS1 e) (by rw [List.length_cons] at h; omega)
    have h2 : (0 : Int) + entS0 e = entS0 e := by omega
    have h3 : (0 : Int) + entS1 e = entS1 e := by omega
    have h4 : IntKind.u64.wrap (entS0 e) = entS0 e := by have := entS0_lt e; rw [wrapU_eq]; omega
    have h5 : IntKind.u64.wrap (entS1 e) = entS1 e := by have := entS1_lt e; rw [wrapU_eq]; omega
    show (l.map tal1).foldl J4 (((1 : Nat) : Int), entS0 e, entS1 e) = _
    rw [h1]
    unfold talL sum0 sum1
    rw [List.foldl_cons, List.foldl_cons, h2, h3, h4, h5, List.length_cons, Nat.add_comm]
end Go.Proofs.YtokcgnbjkbhmiaaDoor
namespace Go.Proofs.YtokcgnbjkbhmiaaDoor
set_option linter.unusedSimpArgs false
set_option linter.unusedVariables false
namespace Tr
variable {V S : Type}
/-- No two trees beside each other differ in height by more than one. -/
def Even : Tr V S → Prop
  | nil => True
  | node l _ _ _ r => l.Even ∧ r.Even ∧ l.high ≤ r.high + 1 ∧ r.high ≤ l.high + 1
theorem bal_even (l : Tr V S) (k : ByteArray) (v : V) (s : S) (r : Tr V S) (hl : l.Even) (hr : r.Even) (h1 : l.high ≤ r.high + 2) (h2 : r.high ≤ l.high + 2) :
    (bal l k v s r).Even ∧ max l.high r.high ≤ (bal l k v s r).high ∧ (bal l k v s r).high ≤ max l.high r.high + 1 ∧ (l.high ≤ r.high + 1 → r.high ≤ l.high + 1 → (bal l k v s r).high = max l.high r.high + 1) := by
  unfold bal
  split
  · rename_i hb
    cases l with
    | nil => simp only [high] at hb; omega
    | node ll lk lv ls lr =>
      obtain ⟨e1, e2, e3, e4⟩ := hl
      simp only [high] at hb h1 h2
      dsimp only
      split
      · rename_i h3
        simp only [Even, high]
        refine ⟨⟨e1, ⟨e2, hr, ?_, ?_⟩, ?_, ?_⟩, ?_, ?_, ?_⟩ <;> omega
      · rename_i h3
        cases lr with
        | nil => simp only [high] at h3; omega
        | node ml mk mv ms mr =>
          obtain ⟨f1, f2, f3, f4⟩ := e2
          simp only [high] at h3 hb h1 h2 e3 e4
          simp only [Even, high]
          refine ⟨⟨⟨e1, f1, ?_, ?_⟩, ⟨f2, hr, ?_, ?_⟩, ?_, ?_⟩, ?_, ?_, ?_⟩ <;> omega
  · rename_i hb
    split
    · rename_i hb2
      cases r with
      | nil => simp only [high] at hb2; omega
      | node rl rk rv rs rr =>
        obtain ⟨e1, e2, e3, e4⟩ := hr
        simp only [high] at hb hb2 h1 h2
        dsimp only
        split
        · rename_i h3
          simp only [Even, high]
          refine ⟨⟨⟨hl, e1, ?_, ?_⟩, e2, ?_, ?_⟩, ?_, ?_, ?_⟩ <;> omega
        · rename_i h3
          cases rl with
          | nil => simp only [high] at h3; omega
          | node ml mk mv ms mr =>
            obtain ⟨f1, f2, f3, f4⟩ := e1
            simp only [high] at h3 hb hb2 h1 h2 e3 e4
            simp only [Even, high]
            refine ⟨⟨⟨hl, f1, ?_, ?_⟩, ⟨f2, e2, ?_, ?_⟩, ?_, ?_⟩, ?_, ?_, ?_⟩ <;> omega
    · rename_i hb2
      simp only [Even, high]
      refine ⟨⟨hl, hr, ?_, ?_⟩, ?_, ?_, ?_⟩ <;> omega
theorem put_even (k : ByteArray) (v : V) (s : S) : ∀ T : Tr V S, T.Even → (T.put k v s).Even ∧ T.high ≤ (T.put k v s).high ∧ (T.put k v s).high ≤ T.high + 1
  | nil, _ => by simp [put, Even, high]
  | node l k' v' s' r, h => by
    obtain ⟨e1, e2, e3, e4⟩ := h
    unfold put
    split
    · obtain ⟨p1, p2, p3⟩ := put_even k v s l e1
      obtain ⟨b1, b2, b3, b4⟩ := bal_even (l.put k v s) k' v' s' r p1 e2 (by omega) (by omega)
      refine ⟨b1, ?_, ?_⟩
      · by_cases h : (l.put k v s).high ≤ r.high + 1
        · rw [b4 h (by omega)]; simp only [high]; omega
        · simp only [high]; omega
      · by_cases h : (l.put k v s).high ≤ r.high + 1
        · rw [b4 h (by omega)]; simp only [high]; omega
        · simp only [high]; omega
    · split
      · obtain ⟨p1, p2, p3⟩ := put_even k v s r e2
        obtain ⟨b1, b2, b3, b4⟩ := bal_even l k' v' s' (r.put k v s) e1 p1 (by omega) (by omega)
        refine ⟨b1, ?_, ?_⟩
        · by_cases h : (r.put k v s).high ≤ l.high + 1
          · rw [b4 (by omega) h]; simp only [high]; omega
          · simp only [high]; omega
        · by_cases h : (r.put k v s).high ≤ l.high + 1
          · rw [b4 (by omega) h]; simp only [high]; omega
          · simp only [high]; omega
      · exact ⟨⟨e1, e2, e3, e4⟩, by simp only [high]; omega, by simp only [high]; omega⟩
theorem even_size : ∀ T : Tr V S, T.Even → 2 ^ (T.high / 2) ≤ T.size + 1
  | nil, _ => by simp [high, size]
  | node l k v s r, h => by
    obtain ⟨e1, e2, e3, e4⟩ := h
    have h1 := even_size l e1
    have h2 := even_size r e2
    simp only [high, size]
    have m : ∀ {a b : Nat}, a ≤ b → 2 ^ a ≤ 2 ^ b := fun h => Nat.pow_le_pow_right (by omega) h
    rcases Nat.eq_zero_or_pos (max l.high r.high) with h0 | h0
    · rw [h0]; simp
    · obtain ⟨q, hq⟩ : ∃ q, (1 + max l.high r.high) / 2 = q + 1 := ⟨(1 + max l.high r.high) / 2 - 1, by omega⟩
      rw [hq, Nat.pow_succ]
      have a1 : 2 ^ q ≤ 2 ^ (l.high / 2) := m (by omega)
      have a2 : 2 ^ q ≤ 2 ^ (r.high / 2) := m (by omega)
      omega
theorem put_size_le (k : ByteArray) (v : V) (s : S) : ∀ T : Tr V S, T.size ≤ (T.put k v s).size
  | nil => by simp [put, size]
  | node l k' v' s' r => by
    have h1 := put_size_le k v s l
    have h2 := put_size_le k v s r
    unfold put
    split
    · rw [bal_size]; simp only [size]; omega
    · split
      · rw [bal_size]; simp only [size]; omega
      · simp only [size]; omega
section
variable (J : S → S → S) (z : S)
theorem pieces_full : ∀ (T : Tr V S) (i j : Int), i ≤ 0 → (T.size : Int) ≤ j → (T.pieces J z i j).length ≤ 1
  | nil, _, _, _, _ => by simp [pieces]
  | node l k v s r, i, j, hi, hj => by
    simp only [pieces]
    split
    · simp
    · rw [if_pos ⟨hi, hj⟩]; simp
theorem pieces_none (T : Tr V S) (i j : Int) (h : j ≤ i) : (T.pieces J z i j).length = 0 := by
  cases T with
  | nil => simp [pieces]
  | node l k v s r => simp only [pieces]; rw [if_pos h]; rfl
theorem pieces_pre : ∀ (T : Tr V S) (i j : Int), i ≤ 0 → (T.pieces J z i j).length ≤ 2 * T.high + 1
  | nil, _, _, _ => by simp [pieces]
  | node l k v s r, i, j, hi => by
    have h1 := pieces_pre l i (min j l.size) hi
    have h2 := pieces_pre r (max (i - l.size - 1) 0) (j - l.size - 1) (by omega)
    have h3 := pieces_full J z l i (min j l.size) hi
    have h4 := pieces_none J z r (max (i - l.size - 1) 0) (j - l.size - 1)
    simp only [pieces, high]
    split
    · simp
    · split
      · simp
      · simp only [List.length_append]
        by_cases h : (l.size : Int) < j
        · have := h3 (by omega)
          split <;> simp <;> omega
        · rw [if_neg (by omega)]
          have := h4 (by omega)
          simp; omega
theorem pieces_suf : ∀ (T : Tr V S) (i j : Int), (T.size : Int) ≤ j → (T.pieces J z i j).length ≤ 2 * T.high + 1
  | nil, _, _, _ => by simp [pieces]
  | node l k v s r, i, j, hj => by
    simp only [size] at hj
    have h1 := pieces_suf l i (min j l.size) (by omega)
    have h2 := pieces_suf r (max (i - l.size - 1) 0) (j - l.size - 1) (by omega)
    have h3 := pieces_full J z r (max (i - l.size - 1) 0) (j - l.size - 1)
    have h4 := pieces_none J z l i (min j l.size)
    simp only [pieces, high]
    split
    · simp
    · split
      · simp
      · simp only [List.length_append]
        by_cases h : i ≤ (l.size : Int)
        · have := h3 (by omega) (by omega)
          split <;> simp <;> omega
        · rw [if_neg (by omega)]
          have := h4 (by omega)
          simp; omega
theorem pieces_cost : ∀ (T : Tr V S) (i j : Int), (T.pieces J z i j).length ≤ 4 * T.high + 1
  | nil, _, _ => by simp [pieces]
  | node l k v s r, i, j => by
    have h1 := pieces_cost l i (min j l.size)
    have h2 := pieces_cost r (max (i - l.size - 1) 0) (j - l.size - 1)
    have h3 := pieces_suf J z l i (min j l.size)
    have h4 := pieces_pre J z r (max (i - l.size - 1) 0) (j - l.size - 1)
    have h5 := pieces_none J z l i (min j l.size)
    have h6 := pieces_none J z r (max (i - l.size - 1) 0) (j - l.size - 1)
    simp only [pieces, high]
    split
    · simp
    · split
      · simp
      · simp only [List.length_append]
        by_cases ha : i ≤ (l.size : Int)
        · by_cases hb : (l.size : Int) < j
          · have a1 := h3 (by omega)
            have a2 := h4 (by omega)
            split <;> simp <;> omega
          · rw [if_neg (by omega)]
            have := h6 (by omega)
            simp; omega
        · rw [if_neg (by omega)]
          have := h5 (by omega)
          simp; omega
end
/-- The bound holds what is joined. -/
theorem cost_ok {h n l : Nat} (h1 : 2 ^ (h / 2) ≤ n + 1) (h2 : n + 1 ≤ 2 ^ l) : 6 * h + 2 ≤ 16 * (1 + l) := by
  have h3 : h / 2 ≤ l := (Nat.pow_le_pow_iff_right (by omega)).1 (Nat.le_trans h1 h2)
  omega
end Tr
end Go.Proofs.YtokcgnbjkbhmiaaDoor
namespace Go.Proofs.YtokcgnbjkbhmiaaDoor
open Go.RowKit Go.Lib
set_option maxHeartbeats 4000000
set_option maxRecDepth 100000
set_option linter.unusedSimpArgs false
set_option linter.unusedVariables false

/-- A store: its node, its clock, its entries by rising keys. -/
structure St where
  id : Int
  time : Int
  l : List Ent
structure StOk (s : St) : Prop where
  id : 0 ≤ s.id ∧ s.id < 8
  time : 0 ≤ s.time ∧ s.time ≤ 1099511627776
  srt : SrtE s.l
  n : s.l.length ≤ 256
  ok : ∀ x ∈ s.l, eChk x = 0 ∧ x.ctr ≤ s.time
def roomE (k : ByteArray) (l : List Ent) : Bool := (fndE k l).isSome || decide (l.length < 256)
def layS (s : St) (e : Ent) : St := ⟨s.id, max s.time e.ctr, insE e s.l⟩
def wrE (s : St) (k v : ByteArray) : Int := if 16 < (k.size : Int) then 20 else if 32 < (v.size : Int) then 31 else if roomE k s.l = false then 80 else if s.time = 1099511627776 then 33 else 0
def wrEnt (s : St) (k v : ByteArray) (d : Bool) : Ent := ⟨k, s.time + 1, s.id, v, d⟩
def wrS (s : St) (k v : ByteArray) (d : Bool) : St := if wrE s k v = 0 then layS s (wrEnt s k v d) else s
def wrV (s : St) (k v : ByteArray) : Int × Int := if wrE s k v = 0 then (s.time + 1, s.id) else (0, 0)
def tkE (s : St) (e : Ent) : Int := if eChk e ≠ 0 then eChk e else if roomE e.key s.l = false then 80 else 0
def beats (e : Ent) (o : Option Ent) : Bool := match o with | some x => newer e x | none => true
def tkB (s : St) (e : Ent) : Bool := decide (tkE s e = 0) && beats e (fndE e.key s.l)
def tkS (s : St) (e : Ent) : St := if tkB s e = true then layS s e else s
def ldP (clock : Int) : Option ByteArray → List Ent → Int
  | _, [] => 0
  | prev, e :: r => if eChk e ≠ 0 then eChk e else if (∃ k, prev = some k ∧ Op.bytesLess k.toList e.key.toList = false) then 90 else if clock < e.ctr then 30 else ldP clock (some e.key) r
def ldE (node clock : Int) (l : List Ent) : Int := if node < 0 ∨ 8 ≤ node ∨ clock < 0 ∨ 1099511627776 < clock then 1 else if 256 < l.length then 80 else ldP clock none l
theorem eChk_ctr {e : Ent} (h : eChk e = 0) : 1 ≤ e.ctr ∧ e.ctr ≤ 1099511627776 ∧ 0 ≤ e.node ∧ e.node < 8 ∧ (e.key.size : Int) ≤ 16 ∧ (e.val.size : Int) ≤ 32 := by
  unfold eChk entCheck at h
  have hv : verCheck e.ctr e.node = 0 → 1 ≤ e.ctr ∧ e.ctr ≤ 1099511627776 ∧ 0 ≤ e.node ∧ e.node < 8 := fun h => by
    unfold verCheck at h
    split at h
    · assumption
    · cases h
  split at h
  · cases h
  · split at h
    · cases h
    · rename_i h1 h2
      have h3 := hv (by simpa using h2)
      split at h
      · cases h
      · omega
theorem layS_ok {s : St} (h : StOk s) {e : Ent} (he : eChk e = 0) (hr : roomE e.key s.l = true) : StOk (layS s e) := by
  obtain ⟨e1, e2, -⟩ := eChk_ctr he
  have ht := h.time
  refine ⟨h.id, ⟨by simp only [layS]; omega, by simp only [layS]; omega⟩, insE_srt h.srt, ?_, fun x hx => ?_⟩
  · have hn := h.n
    simp only [layS]
    rw [insE_len h.srt]
    unfold roomE at hr
    split
    · exact hn
    · rename_i h1
      have h2 : decide (s.l.length < 256) = true := by simpa [h1] using hr
      have := of_decide_eq_true h2
      omega
  · rcases insE_mem hx with rfl | hx
    · exact ⟨he, by simp only [layS]; omega⟩
    · have := h.ok x hx
      exact ⟨this.1, by have := this.2; simp only [layS]; omega⟩
theorem wrEnt_ok {s : St} (h : StOk s) {k v : ByteArray} {d : Bool} (hw : wrE s k v = 0) (hd : d = true → v = ⟨#[]⟩) : eChk (wrEnt s k v d) = 0 ∧ roomE k s.l = true := by
  have h1 := h.id
  have h2 := h.time
  unfold wrE at hw
  split at hw
  · cases hw
  · split at hw
    · cases hw
    · split at hw
      · cases hw
      · split at hw
        · cases hw
        · rename_i h3 h4 h5 h6
          refine ⟨?_, by simpa using h5⟩
          unfold eChk entCheck wrEnt
          dsimp only
          rw [if_neg h3, if_neg, if_neg h4, if_neg]
          · rintro ⟨h7, h8⟩
            rw [hd h7] at h8
            simp [ByteArray.toList_eq] at h8
          · unfold verCheck
            rw [if_pos (by omega)]
            simp
theorem wrS_ok {s : St} (h : StOk s) {k v : ByteArray} {d : Bool} (hd : d = true → v = ⟨#[]⟩) : StOk (wrS s k v d) := by
  unfold wrS
  split
  · rename_i hw
    have := wrEnt_ok (d := d) h hw hd
    exact layS_ok h this.1 this.2
  · exact h
theorem tkE_zero {s : St} {e : Ent} (h : tkE s e = 0) : eChk e = 0 ∧ roomE e.key s.l = true := by
  unfold tkE at h
  split at h
  · rename_i h1; exact absurd h h1
  · split at h
    · cases h
    · rename_i h1 h2
      exact ⟨by simpa using h1, by simpa using h2⟩
theorem tkB_true {s : St} {e : Ent} (h : tkB s e = true) : tkE s e = 0 ∧ beats e (fndE e.key s.l) = true := by
  unfold tkB at h
  rw [Bool.and_eq_true, decide_eq_true_iff] at h
  exact h
theorem tkS_ok {s : St} (h : StOk s) (e : Ent) : StOk (tkS s e) := by
  unfold tkS
  split
  · rename_i hb
    have := tkE_zero (tkB_true hb).1
    exact layS_ok h this.1 this.2
  · exact h
theorem ldP_take {clock : Int} {l : List Ent} (k : Nat) (hk : k < l.length) (p : Option ByteArray) : ldP clock p (l.drop k) =
    if eChk l[k] ≠ 0 then eChk l[k] else if (∃ q, p = some q ∧ Op.bytesLess q.toList l[k].key.toList = false) then 90 else if clock < l[k].ctr then 30 else ldP clock (some l[k].key) (l.drop (k + 1)) := by
  rw [List.drop_eq_getElem_cons hk, ldP]
theorem ldP_ok (clock : Int) : ∀ (l : List Ent) (p : Option ByteArray), ldP clock p l = 0 → (∀ x ∈ l, eChk x = 0 ∧ x.ctr ≤ clock ∧ ∀ k, p = some k → blt k x.key) ∧ SrtE l
  | [], _, _ => ⟨fun x h => (by cases h), List.Pairwise.nil⟩
  | e :: r, p, h => by
    unfold ldP at h
    split at h
    · rename_i h1; exact absurd h h1
    · split at h
      · cases h
      · split at h
        · cases h
        · rename_i h1 h2 h3
          obtain ⟨h4, h5⟩ := ldP_ok clock r (some e.key) h
          have h6 : ∀ k, p = some k → blt k e.key := fun k hk => by
            rcases hb : Op.bytesLess k.toList e.key.toList with _ | _
            · exact absurd ⟨k, hk, hb⟩ h2
            · exact hb
          refine ⟨fun x hx => ?_, List.Pairwise.cons (fun x hx => (h4 x hx).2.2 _ rfl) h5⟩
          rcases List.mem_cons.1 hx with rfl | hx
          · exact ⟨by simpa using h1, by omega, h6⟩
          · exact ⟨(h4 x hx).1, (h4 x hx).2.1, fun k hk => blt_trans (h6 k hk) ((h4 x hx).2.2 _ rfl)⟩
theorem ldE_ok {node clock : Int} {l : List Ent} (h : ldE node clock l = 0) : StOk ⟨node, clock, l⟩ := by
  unfold ldE at h
  split at h
  · cases h
  · split at h
    · cases h
    · obtain ⟨h1, h2⟩ := ldP_ok clock l none h
      exact ⟨⟨by dsimp only; omega, by dsimp only; omega⟩, ⟨by dsimp only; omega, by dsimp only; omega⟩, h2, by dsimp only; omega, fun x hx => ⟨(h1 x hx).1, (h1 x hx).2.1⟩⟩
/-- What is above all others comes last. -/
theorem insE_last {e : Ent} : ∀ {l : List Ent}, (∀ x ∈ l, blt x.key e.key) → insE e l = l ++ [e]
  | [], _ => rfl
  | x :: L, h => by
    simp only [insE]
    rw [if_pos (h x (by simp)), insE_last fun y hy => h y (List.mem_cons_of_mem _ hy)]
    rfl
end Go.Proofs.YtokcgnbjkbhmiaaDoor
namespace Go.Proofs.YtokcgnbjkbhmiaaDoor
open Go.RowKit Go.Lib
set_option maxHeartbeats 4000000
set_option maxRecDepth 100000
set_option linter.unusedSimpArgs false
set_option linter.unusedVariables false

abbrev TrE := Tr Ent Tal3
theorem te_size {T : TrE} {l : List Ent} (h : T.rows = rowsE l) : T.size = l.length := by rw [← Tr.rows_len, h, rowsE_len]
theorem te_put {T : TrE} {l : List Ent} (h : T.rows = rowsE l) (hs : SrtE l) (e : Ent) : (T.put e.key e (tal1 e)).rows = rowsE (insE e l) := by
  rw [Tr.put_rows _ _ _ _ (by rw [h]; exact srt_rowE.2 hs), h, ins_rowE]
theorem te_get {T : TrE} {l : List Ent} (h : T.rows = rowsE l) (hs : SrtE l) (k : ByteArray) : T.get k = fndE k l := by
  rw [Tr.get_rows _ _ (by rw [h]; exact srt_rowE.2 hs), h, fnd_rowE]
  cases fndE k l <;> rfl
theorem te_rank {T : TrE} {l : List Ent} (h : T.rows = rowsE l) (hs : SrtE l) (k : ByteArray) : T.rank k = cntE k l := by
  rw [Tr.rank_rows _ _ (by rw [h]; exact srt_rowE.2 hs), h, cnt_rowE]
theorem te_sums {T : TrE} {l : List Ent} (h : T.rows = rowsE l) : T.sums = l.map tal1 := by
  unfold Tr.sums
  rw [h]
  unfold rowsE
  rw [List.map_map]
  rfl
theorem sl_map {α β : Type} (f : α → β) (l : List α) (i j : Nat) : sl (l.map f) i j = (sl l i j).map f := by unfold sl; rw [← List.map_take, ← List.map_drop]
theorem sl_len_le {α : Type} (l : List α) (i j : Nat) : (sl l i j).length ≤ l.length := by unfold sl; rw [List.length_drop, List.length_take]; omega
theorem te_fold {T : TrE} {l : List Ent} (h : T.rows = rowsE l) (hn : l.length ≤ 256) (i j : Nat) (hj : j ≤ l.length) : foldP J4 (0, 0, 0) (T.pieces J4 (0, 0, 0) (max (i : Int) 0) (min (j : Int) T.size)) = talL (sl l i j) := by
  rw [Tr.fold_rows J4_assoc, te_sums h, te_size h, sl_map, show min ((j : Int)).toNat l.length = j by omega, show ((i : Int)).toNat = i by omega]
  exact foldP_tal _ (by have := sl_len_le l i j; omega)
theorem te_cost {T : TrE} {l : List Ent} (h : T.rows = rowsE l) (he : T.Even) : 2 ^ (T.high / 2) ≤ l.length + 1 := by
  have := Tr.even_size T he
  rwa [te_size h] at this
/-! ### the examples -/
abbrev kA : ByteArray := ⟨#[97]⟩
abbrev kB : ByteArray := ⟨#[98]⟩
abbrev kC : ByteArray := ⟨#[99]⟩
abbrev kX : ByteArray := ⟨#[120]⟩
abbrev kY : ByteArray := ⟨#[121]⟩
abbrev kN : ByteArray := ⟨#[]⟩
abbrev xA1 : Ent := ⟨kA, 1, 3, kX, false⟩
abbrev xB : Ent := ⟨kB, 2, 3, kN, false⟩
abbrev xA3 : Ent := ⟨kA, 3, 3, kN, true⟩
abbrev xC : Ent := ⟨kC, 9, 0, kN, false⟩
abbrev xA5 : Ent := ⟨kA, 10, 3, kY, false⟩
abbrev sS0 : St := ⟨3, 0, []⟩
abbrev sS1 : St := ⟨3, 1, [xA1]⟩
abbrev sS2 : St := ⟨3, 2, [xA1, xB]⟩
abbrev sS3 : St := ⟨3, 3, [xA3, xB]⟩
abbrev sS4 : St := ⟨3, 9, [xA3, xB, xC]⟩
abbrev sS5 : St := ⟨3, 10, [xA5, xB, xC]⟩
theorem se1 : wrE sS0 kA kX = 0 := by decide
theorem se2 : wrE sS1 kB kN = 0 := by decide
theorem se3 : wrE sS2 kA kN = 0 := by decide
theorem se5 : wrE sS4 kA kY = 0 := by decide
theorem ss1 : wrS sS0 kA kX false = sS1 := by rw [wrS, if_pos se1]; simp [layS, insE, wrEnt]; decide
theorem bAB : Op.bytesLess kA.toList kB.toList = true := by simp [ByteArray.toList_eq, Op.bytesLess]
theorem bBA : Op.bytesLess kB.toList kA.toList = false := by simp [ByteArray.toList_eq, Op.bytesLess]
theorem bBC : Op.bytesLess kB.toList kC.toList = true := by simp [ByteArray.toList_eq, Op.bytesLess]
theorem bCB : Op.bytesLess kC.toList kB.toList = false := by simp [ByteArray.toList_eq, Op.bytesLess]
theorem bAC : Op.bytesLess kA.toList kC.toList = true := by simp [ByteArray.toList_eq, Op.bytesLess]
theorem bCA : Op.bytesLess kC.toList kA.toList = false := by simp [ByteArray.toList_eq, Op.bytesLess]
theorem bXA : Op.bytesLess kX.toList kA.toList = false := by simp [ByteArray.toList_eq, Op.bytesLess]
theorem bAA : Op.bytesLess kA.toList kA.toList = false := bl_irrefl _
theorem bBB : Op.bytesLess kB.toList kB.toList = false := bl_irrefl _
theorem bCC : Op.bytesLess kC.toList kC.toList = false := bl_irrefl _
theorem ss2 : wrS sS1 kB kN false = sS2 := by rw [wrS, if_pos se2]; simp [layS, insE, wrEnt, blt, Op.bytesLess, ByteArray.toList_eq]; decide
theorem ss3 : wrS sS2 kA kN true = sS3 := by rw [wrS, if_pos se3]; simp [layS, insE, wrEnt, blt, Op.bytesLess, ByteArray.toList_eq]; decide
theorem st4 : tkE sS3 xC = 0 := by decide
theorem sb4 : tkB sS3 xC = true := by unfold tkB; rw [st4]; decide
theorem ss4 : tkS sS3 xC = sS4 := by rw [tkS, if_pos sb4]; simp [layS, insE, blt, Op.bytesLess, ByteArray.toList_eq]; decide
theorem ss5 : wrS sS4 kA kY false = sS5 := by rw [wrS, if_pos se5]; simp [layS, insE, wrEnt, blt, Op.bytesLess, ByteArray.toList_eq]; decide
theorem sg5 : fndE kA sS5.l = some xA5 := by simp [fndE]
theorem sr1 : rngCheck kX kA false = 21 := by
  have h : (kX.toList == kA.toList) = false := by simp [ByteArray.toList_eq]
  simp [rngCheck, h, ByteArray.size, Op.bytesLess, ByteArray.toList_eq]
theorem sr2 : rngCheck kB kC false = 0 := by simp [rngCheck, ByteArray.size, Op.bytesLess, ByteArray.toList_eq]
theorem sh2 (e : Ent) (h : e.key.size = 1) : holdE kB kC false e = (!Op.bytesLess e.key.toList kB.toList && Op.bytesLess e.key.toList kC.toList) := by simp [holdE, rngHolds, sr2, h]
theorem sf2 : (inF kB kC false sS5.l).length = 1 := by unfold inF; rw [List.filter_cons, List.filter_cons, List.filter_cons, sh2 _ rfl, sh2 _ rfl, sh2 _ rfl]; simp [Op.bytesLess, ByteArray.toList_eq]
end Go.Proofs.YtokcgnbjkbhmiaaDoor
namespace Go.Proofs.YtokcgnbjkbhmiaaDoor
open Go.RowKit Go.Lib
set_option maxHeartbeats 4000000
set_option maxRecDepth 100000
set_option linter.unusedSimpArgs false
set_option linter.unusedVariables false

def stNil (id : Int) : St := ⟨id, 0, []⟩
theorem stNil_ok {id : Int} (h : 0 ≤ id ∧ id < 8) : StOk (stNil id) := ⟨h, ⟨by simp [stNil], by simp [stNil]⟩, List.Pairwise.nil, by simp [stNil], fun x hx => by cases hx⟩
def takes (s : St) (xs : List Ent) : St := xs.foldl tkS s
theorem takes_snoc (s : St) (xs : List Ent) (e : Ent) : takes s (xs ++ [e]) = tkS (takes s xs) e := by unfold takes; rw [List.foldl_append]; rfl
theorem takes_ok {s : St} (h : StOk s) : ∀ xs : List Ent, StOk (takes s xs)
  | [] => h
  | e :: xs => takes_ok (tkS_ok h e) xs
/-- The version of a is no older than b's. -/
abbrev noNewer (b a : Ent) : Prop := newer b a = false
theorem newer_iff (a b : Ent) : newer a b = true ↔ b.ctr < a.ctr ∨ (b.ctr = a.ctr ∧ b.node < a.node) := by
  unfold newer cmpV
  rw [decide_eq_true_iff]
  simp only [firstNZ, cmpI]
  repeat' split
  all_goals omega
theorem noNewer_iff (b a : Ent) : noNewer b a ↔ b.ctr < a.ctr ∨ (b.ctr = a.ctr ∧ b.node ≤ a.node) := by
  have h := newer_iff b a
  constructor
  · intro h1
    have h2 : ¬ newer b a = true := by rw [show newer b a = false from h1]; simp
    rw [h] at h2
    omega
  · intro h1
    rcases h2 : newer b a with _ | _
    · exact h2
    · have := h.1 h2; omega
/-- What is held behind some entries that were all offered. -/
structure Taken (s : St) (xs : List Ent) : Prop where
  ok : StOk s
  all : ∀ x ∈ xs, eChk x = 0 → x.ctr ≤ s.time ∧ ∃ y, fndE x.key s.l = some y ∧ noNewer x y
  of : ∀ y ∈ s.l, y ∈ xs ∧ eChk y = 0
  time : s.time = 0 ∨ ∃ y ∈ xs, eChk y = 0 ∧ y.ctr = s.time
theorem taken_nil {id : Int} (h : 0 ≤ id ∧ id < 8) : Taken (stNil id) [] := ⟨stNil_ok h, fun x hx => (by cases hx), fun x hx => (by cases hx), .inl rfl⟩
theorem taken_snoc {s : St} {xs : List Ent} (h : Taken s xs) (e : Ent) (hf : tkE s e ≠ 80 ∨ eChk e = 80) : Taken (tkS s e) (xs ++ [e]) := by
  have hok := tkS_ok h.ok e
  by_cases hb : tkB s e = true
  · have e1 : tkS s e = layS s e := by unfold tkS; rw [if_pos hb]
    obtain ⟨h1, h2⟩ := tkB_true hb
    obtain ⟨h3, -⟩ := tkE_zero h1
    rw [e1] at hok ⊢
    refine ⟨hok, fun x hx hx0 => ?_, fun y hy => ?_, ?_⟩
    · have hself : fndE e.key (insE e s.l) = some e := by rw [fndE_ins e.key h.ok.srt, if_pos rfl]
      rcases List.mem_append.1 hx with hx | hx
      · obtain ⟨h4, y, h5, h6⟩ := h.all x hx hx0
        refine ⟨by simp only [layS]; omega, ?_⟩
        by_cases hk : x.key = e.key
        · refine ⟨e, by simp only [layS]; rw [hk]; exact hself, ?_⟩
          rw [hk] at h5
          rw [h5] at h2
          have h7 : newer e y = true := h2
          rw [newer_iff] at h7
          rw [noNewer_iff] at h6 ⊢
          omega
        · exact ⟨y, by simp only [layS]; rw [fndE_ins _ h.ok.srt, if_neg hk]; exact h5, h6⟩
      · obtain rfl : x = e := by simpa using hx
        exact ⟨by simp only [layS]; omega, x, hself, by rw [noNewer_iff]; omega⟩
    · rcases insE_mem hy with rfl | hy
      · exact ⟨by simp, h3⟩
      · have := h.of y hy
        exact ⟨List.mem_append_left _ this.1, this.2⟩
    · have hm : (layS s e).time = s.time ∨ (layS s e).time = e.ctr := by simp only [layS]; omega
      rcases hm with hm | hm
      · rw [hm]
        rcases h.time with h4 | ⟨y, h4, h5⟩
        · exact .inl h4
        · exact .inr ⟨y, List.mem_append_left _ h4, h5⟩
      · exact .inr ⟨e, by simp, h3, hm.symm⟩
  · have e1 : tkS s e = s := by unfold tkS; rw [if_neg hb]
    rw [e1]
    refine ⟨h.ok, fun x hx hx0 => ?_, fun y hy => ⟨List.mem_append_left _ (h.of y hy).1, (h.of y hy).2⟩, ?_⟩
    · rcases List.mem_append.1 hx with hx | hx
      · exact h.all x hx hx0
      · obtain rfl : x = e := by simpa using hx
        have h2 : tkE s x = 0 := by
          unfold tkE at hf ⊢
          rw [if_neg (by rw [hx0]; simp)] at hf ⊢
          by_cases hr : roomE x.key s.l = false
          · rw [if_pos hr, hx0] at hf
            rcases hf with hf | hf
            · exact absurd rfl hf
            · cases hf
          · rw [if_neg hr]
        have h3 : beats x (fndE x.key s.l) = false := by
          unfold tkB at hb
          rw [h2] at hb
          simpa using hb
        unfold beats at h3
        split at h3
        · rename_i y hy
          obtain ⟨-, hm⟩ := fndE_some hy
          refine ⟨?_, y, hy, h3⟩
          have h4 : noNewer x y := h3
          rw [noNewer_iff] at h4
          have := (h.ok.ok y hm).2
          omega
        · cases h3
    · rcases h.time with h4 | ⟨y, h4, h5⟩
      · exact .inl h4
      · exact .inr ⟨y, List.mem_append_left _ h4, h5⟩
/-- No two of them are two texts of one write. -/
def NoTwin (xs : List Ent) : Prop := ∀ x ∈ xs, ∀ y ∈ xs, x.key = y.key → x.ctr = y.ctr → x.node = y.node → x = y
theorem srtE_ext {A B : List Ent} (hA : SrtE A) (hB : SrtE B) (h : ∀ q, fndE q A = fndE q B) : A = B := by
  have h1 : rowsE A = rowsE B := srt_ext (srt_rowE.2 hA) (srt_rowE.2 hB) fun q => by rw [fnd_rowE, fnd_rowE, h]
  have h2 := congrArg (List.map (fun r : Rw Ent Tal3 => r.2.1)) h1
  simpa [rowsE, List.map_map, Function.comp_def] using h2
theorem taken_eq {s t : St} {xs ys : List Ent} (hs : Taken s xs) (ht : Taken t ys) (hm : ∀ x, x ∈ xs ↔ x ∈ ys) (hn : NoTwin xs) : s.l = t.l ∧ s.time = t.time := by
  have half : ∀ {s t : St} {xs ys : List Ent}, Taken s xs → Taken t ys → (∀ x, x ∈ xs ↔ x ∈ ys) → NoTwin xs → (∀ q y, fndE q s.l = some y → fndE q t.l = some y) ∧ s.time ≤ t.time := by
    intro s t xs ys hs ht hm hn
    refine ⟨fun q y hy => ?_, ?_⟩
    · obtain ⟨hk, hy1⟩ := fndE_some hy
      obtain ⟨h1, h2⟩ := hs.of y hy1
      obtain ⟨-, z, h3, h4⟩ := ht.all y ((hm y).1 h1) h2
      obtain ⟨hk', hz1⟩ := fndE_some h3
      obtain ⟨h5, h6⟩ := ht.of z hz1
      obtain ⟨-, y', h7, h8⟩ := hs.all z ((hm z).2 h5) h6
      rw [hk', hk] at h7
      obtain rfl : y = y' := by rw [hy] at h7; cases h7; rfl
      rw [noNewer_iff] at h4 h8
      have e : y = z := hn y h1 z ((hm z).2 h5) (by rw [hk']) (by omega) (by omega)
      rw [hk] at h3
      rw [e]
      exact h3
    · rcases hs.time with h1 | ⟨y, h1, h2, h3⟩
      · have := ht.ok.time; omega
      · have := (ht.all y ((hm y).1 h1) h2).1; omega
  have hn' : NoTwin ys := fun x hx y hy => hn x ((hm x).2 hx) y ((hm y).2 hy)
  have h1 := half hs ht hm hn
  have h2 := half ht hs (fun x => (hm x).symm) hn'
  refine ⟨srtE_ext hs.ok.srt ht.ok.srt fun q => ?_, by have := h1.2; have := h2.2; omega⟩
  cases e1 : fndE q s.l with
  | some y => exact (h1.1 q y e1).symm
  | none =>
    cases e2 : fndE q t.l with
    | none => rfl
    | some z => have := h2.1 q z e2; rw [e1] at this; cases this
theorem taken_again {s : St} {xs : List Ent} (h : Taken s xs) {x : Ent} (hx : x ∈ xs) : tkB s x = false ∧ tkS s x = s := by
  have hb : tkB s x = false := by
    unfold tkB
    by_cases h0 : eChk x = 0
    · obtain ⟨-, y, h1, h2⟩ := h.all x hx h0
      rw [h1, show beats x (some y) = newer x y from rfl, show newer x y = false from h2, Bool.and_false]
    · have : tkE s x ≠ 0 := by unfold tkE; rw [if_pos h0]; exact h0
      rw [decide_eq_false this, Bool.false_and]
  exact ⟨hb, by unfold tkS; rw [hb]; rfl⟩
theorem eChk_80 (e : Ent) : eChk e ≠ 80 := by
  unfold eChk entCheck
  repeat' split
  all_goals simp
end Go.Proofs.YtokcgnbjkbhmiaaDoor
