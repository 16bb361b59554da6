/- Trees as plain data; worlds that differ in one block alone; a call through a function value in a region that draws its order. Worlds that differ in some blocks alone. -/
import Derived.Test.YtokcgnbjkbhmiaaDoorMF3
import Derived.Test.YtokcgnbjkbhmiaaDoorReg2
namespace Go.Proofs.YtokcgnbjkbhmiaaDoor
open Go.RowKit
set_option maxHeartbeats 4000000
set_option linter.unusedSimpArgs false
set_option linter.unusedVariables false

inductive Tr (V S : Type) where
  | nil
  | node (l : Tr V S) (k : ByteArray) (v : V) (s : S) (r : Tr V S)
namespace Tr
variable {V S : Type}
def size : Tr V S → Nat
  | nil => 0
  | node l _ _ _ r => l.size + 1 + r.size
def high : Tr V S → Nat
  | nil => 0
  | node l _ _ _ r => 1 + max l.high r.high
def isNil : Tr V S → Bool
  | nil => true
  | node .. => false
def left : Tr V S → Tr V S
  | nil => nil
  | node l .. => l
def right : Tr V S → Tr V S
  | nil => nil
  | node _ _ _ _ r => r
def sum (J : S → S → S) (z : S) : Tr V S → S
  | nil => z
  | node l _ _ s r =>
    if r.isNil then (if l.isNil then s else J (l.sum J z) s) else J (if l.isNil then s else J (l.sum J z) s) (r.sum J z)
def wt (g : S → Nat) : Tr V S → Nat
  | nil => 0
  | node l _ _ s r => l.wt g + g s + r.wt g
/-- A row over two trees of which one may be too high. -/
def bal (l : Tr V S) (k : ByteArray) (v : V) (s : S) (r : Tr V S) : Tr V S :=
  if r.high + 1 < l.high then
    match l with
    | nil => node l k v s r
    | node ll lk lv ls lr =>
      if lr.high ≤ ll.high then node ll lk lv ls (node lr k v s r)
      else match lr with
        | nil => node l k v s r
        | node ml mk mv ms mr => node (node ll lk lv ls ml) mk mv ms (node mr k v s r)
  else if l.high + 1 < r.high then
    match r with
    | nil => node l k v s r
    | node rl rk rv rs rr =>
      if rl.high ≤ rr.high then node (node l k v s rl) rk rv rs rr
      else match rl with
        | nil => node l k v s r
        | node ml mk mv ms mr => node (node l k v s ml) mk mv ms (node mr rk rv rs rr)
  else node l k v s r
theorem high_le : ∀ T : Tr V S, T.high ≤ T.size
  | nil => Nat.le_refl _
  | node l _ _ _ r => by
    have h1 := high_le l
    have h2 := high_le r
    simp only [high, size]
    omega
theorem wt_sum {J : S → S → S} {z : S} {g : S → Nat} (hg : ∀ a b, g (J a b) ≤ g a + g b) : ∀ T : Tr V S, T.isNil = false → g (T.sum J z) ≤ T.wt g
  | nil, h => by cases h
  | node l k v s r, _ => by
    have hl : l.isNil = false → g (l.sum J z) ≤ l.wt g := wt_sum hg l
    have hr : r.isNil = false → g (r.sum J z) ≤ r.wt g := wt_sum hg r
    have h1 : g (if l.isNil then s else J (l.sum J z) s) ≤ l.wt g + g s := by
      cases hn : l.isNil with
      | true => simp
      | false => have := hg (l.sum J z) s; have := hl hn; simp; omega
    simp only [sum, wt]
    cases hn : r.isNil with
    | true => simp; omega
    | false => have := hg (if l.isNil then s else J (l.sum J z) s) (r.sum J z); have := hr hn; simp at *; omega
end Tr

/-- Nothing that is there is changed but for one block. -/
structure Xt (S : Option Nat) (w w' : World) : Prop where
  os : w'.os = w.os
  tape : w'.tape = w.tape
  output : w'.output = w.output
  size : w.heap.size ≤ w'.heap.size
  block : ∀ k, k < w.heap.size → S ≠ some k → w'.heap[k]? = w.heap[k]?
namespace Xt
variable {S : Option Nat} {a b c w w' : World}
theorem of (h : Ext w w') : Xt S w w' := ⟨h.below.os, h.below.tape, h.below.output, h.below.size, fun k hk _ => h.below.block k hk⟩
theorem ext (h : Xt none w w') : Ext w w' := Ext.of ⟨h.os, h.tape, h.output, h.size, fun k hk => h.block k hk (by simp)⟩
theorem refl (w : World) : Xt S w w := ⟨rfl, rfl, rfl, Nat.le_refl _, fun _ _ _ => rfl⟩
theorem trans (a b c : World) (h : Xt S a b) (k : Xt S b c) : Xt S a c :=
  ⟨k.os.trans h.os, k.tape.trans h.tape, k.output.trans h.output, Nat.le_trans h.size k.size, fun i hi hn => (k.block i (Nat.lt_of_lt_of_le hi h.size) hn).trans (h.block i hi hn)⟩
theorem alloc (h : Xt S w w') (o : Obj) : Xt S w (w'.alloc o) := Xt.trans _ _ _ h (Xt.of ((Ext.refl _).alloc o))
theorem drew (h : Xt S w w') : Xt S w w'.drew := ⟨h.os, h.tape, h.output, h.size, h.block⟩
theorem drew_left (h : Xt S w w') : Xt S w.drew w' := ⟨h.os, h.tape, h.output, h.size, h.block⟩
theorem unD (h : Xt S w.drew w') : Xt S w w' := ⟨h.os, h.tape, h.output, h.size, h.block⟩
theorem set (h : Xt S w w') {G o : Nat} {u : Value} (hG : w.heap.size ≤ G) : Xt S w (w'.setCell ⟨G, o, none⟩ u) :=
  ⟨h.os, h.tape, h.output, (by simpa [World.setCell] using h.size), fun k hk hn => (Below.heap_setCell _ _ _ _ (by show k ≠ G; omega)).trans (h.block k hk hn)⟩
theorem cell (hb : Xt S w w') {k o : Nat} (hk : k < w.heap.size) (hn : S ≠ some k) : w'.cell? ⟨k, o, none⟩ = w.cell? ⟨k, o, none⟩ := by
  unfold World.cell?
  simp only [hb.block k hk hn]
theorem hc (hb : Xt S w w') : ∀ b o, b < w.heap.size → S ≠ some b → w'.cell? ⟨b, o, none⟩ = w.cell? ⟨b, o, none⟩ := fun b o h1 h2 => hb.cell h1 h2
theorem hf (hb : Xt S w w') : ∀ b o, b < w.heap.size → S ≠ some b → w'.frozen? ⟨b, o, none⟩ = w.frozen? ⟨b, o, none⟩ := fun b o h1 h2 => by
  unfold World.frozen?
  simp only [hb.block b h1 h2]
theorem hl (hb : Xt S w w') : ∀ k, k < w.heap.size → k < w'.heap.size := fun _ h => Nat.lt_of_lt_of_le h hb.size
theorem hle (hb : Xt S w w') : ∀ k, k < w.heap.size → k ≤ w'.heap.size := fun _ h => Nat.le_of_lt (hb.hl _ h)
theorem hne (hb : Xt S w w') : ∀ k, k < w.heap.size → ¬ k = w'.heap.size := fun _ h => Nat.ne_of_lt (hb.hl _ h)
theorem rd (hx : Xt S w w') {b o : Nat} {v : Value} (h : w.cell? ⟨b, o, none⟩ = some v) (hn : S ≠ some b) : w'.cell? ⟨b, o, none⟩ = some v := by rw [hx.hc b o (cell_lt h) hn]; exact h
end Xt

theorem tset_ne {w : World} {S j b o : Nat} {u : Value} (h : b ≠ S) : (w.setCell ⟨S, j, none⟩ u).cell? ⟨b, o, none⟩ = w.cell? ⟨b, o, none⟩ := by
  go_simp
theorem tset_neo {w : World} {S j b o : Nat} {u : Value} (h : o ≠ j) : (w.setCell ⟨S, j, none⟩ u).cell? ⟨b, o, none⟩ = w.cell? ⟨b, o, none⟩ := by
  go_simp
theorem tset_eq {w : World} {b o : Nat} {u v : Value} (h : w.cell? ⟨b, o, none⟩ = some v) : (w.setCell ⟨b, o, none⟩ u).cell? ⟨b, o, none⟩ = some u := by
  have hb := cell_lt h
  go_simp
theorem tset_fz {w : World} {S j b o : Nat} {u : Value} (h : w.frozen? ⟨b, o, none⟩ = false) : (w.setCell ⟨S, j, none⟩ u).frozen? ⟨b, o, none⟩ = false := by
  go_simp
theorem Xt.fz {S : Option Nat} {w w' : World} (hx : Xt S w w') {b o : Nat} {v : Value} (hc : w.cell? ⟨b, o, none⟩ = some v) (hn : S ≠ some b) (h : w.frozen? ⟨b, o, none⟩ = false) : w'.frozen? ⟨b, o, none⟩ = false := by
  rw [hx.hf b o (cell_lt hc) hn]; exact h
theorem kcast {K : Nat → World → Prop} {a b : Nat} {w : World} (h : K a w) (e : a = b) : K b w := e ▸ h
theorem gen_world {P : Program} {Q : Exit → Act → World → Prop} {K : Act → World → Prop} {a : Act} {w : World} (R : World → Prop) (h0 : R w) (h : ∀ W, R W → Exit.then K Q .normal a W) : Exit.then K Q .normal a w := h w h0

section
variable {P : Program} {ops : Array Oper} {Q : Exit → Act → World → Prop} {E : World → World → Prop} {fl : Nat → Bool} {i : Nat} {p q : Plan} {a : Act} {w : World} {o : Oper}
theorem run_callv {f : FuncId} (he : Enters P f) {c : Operand} {az : Array Operand} {ts : Array TypeId} (hop : o.op = .call { callee := .value c, args := az, argTypes := ts })
    {caps args : Array Value} (hc : a.eval c = .func (.func f) #[] caps) (hargs : az.map a.eval = args) (w : World) : (execOp a.eval o).run P w = .ok (.enter f (args ++ caps)) w := by
  obtain ⟨fn, hf, hname, hb⟩ := he
  have h1 : fn.name ≠ "runtime.NumGoroutine" := by simpa using hname
  obtain ⟨c, hc⟩ := Option.isSome_iff_exists.1 hb
  have he' : (callFunc f (args ++ caps)).run P w = .ok (.enter f (args ++ caps)) w := by simp [callFunc, hf, h1, hc]
  unfold execOp
  simp [hop, resolve, Deferred.ofValue, invoke, *]
theorem plan_callv1 {f : FuncId} (he : Enters P f) {c : Operand} {az : Array Operand} {ts : Array TypeId} {caps args : Array Value} {R : Ending → World → Prop} (hi : ops[i]? = some o) (hw : Region.wanted o (yielded ops a.tmps) = true)
    (hop : o.op = .call { callee := .value c, args := az, argTypes := ts }) (hcv : a.eval c = .func (.func f) #[] caps) (hargs : az.map a.eval = args) (hc : Calls P f (args ++ caps) w R)
    (h : ∀ e w', R e w' → ∃ v, e = .returned v ∧ (fl i = true → E w w') ∧ wpPlan P ops Q E fl p (a.put o.dst v) w') : wpPlan P ops Q E fl (.alt i p .stop) a w := by
  refine plan_loud1 hi hw ?_
  unfold Oper.wp
  rw [run_callv he hop hcv hargs w]
  refine hc.mono fun e w' hR => ?_
  obtain ⟨v, rfl, h1, h2⟩ := h e w' hR
  exact ⟨h1, h2⟩
theorem run_callp {f : FuncId} (he : Enters P f) {c : Operand} {az : Array Operand} {ts : Array TypeId} (hop : o.op = .call { callee := .value c, args := az, argTypes := ts })
    {pre args : Array Value} (hc : a.eval c = .func (.func f) pre #[]) (hargs : az.map a.eval = args) (w : World) : (execOp a.eval o).run P w = .ok (.enter f (pre ++ args)) w := by
  obtain ⟨fn, hf, hname, hb⟩ := he
  have h1 : fn.name ≠ "runtime.NumGoroutine" := by simpa using hname
  obtain ⟨c, hc⟩ := Option.isSome_iff_exists.1 hb
  have he' : (callFunc f (pre ++ args)).run P w = .ok (.enter f (pre ++ args)) w := by simp [callFunc, hf, h1, hc]
  unfold execOp
  simp [hop, resolve, Deferred.ofValue, invoke, *]
theorem plan_callp1 {f : FuncId} (he : Enters P f) {c : Operand} {az : Array Operand} {ts : Array TypeId} {pre args : Array Value} {R : Ending → World → Prop} (hi : ops[i]? = some o) (hw : Region.wanted o (yielded ops a.tmps) = true)
    (hop : o.op = .call { callee := .value c, args := az, argTypes := ts }) (hcv : a.eval c = .func (.func f) pre #[]) (hargs : az.map a.eval = args) (hc : Calls P f (pre ++ args) w R)
    (h : ∀ e w', R e w' → ∃ v, e = .returned v ∧ (fl i = true → E w w') ∧ wpPlan P ops Q E fl p (a.put o.dst v) w') : wpPlan P ops Q E fl (.alt i p .stop) a w := by
  refine plan_loud1 hi hw ?_
  unfold Oper.wp
  rw [run_callp he hop hcv hargs w]
  refine hc.mono fun e w' hR => ?_
  obtain ⟨v, rfl, h1, h2⟩ := h e w' hR
  exact ⟨h1, h2⟩
end

/-- A function value joins two summaries as J does; g: a weight of a summary, M: as heavy as what is joined may be; K n: n joins were counted. -/
structure JoinOK {S : Type} (P : Program) (enc : S → Value) (Sp : Option Nat) (K : Nat → World → Prop) (g : S → Nat) (M : Nat) (J : S → S → S) (f : FuncId) (caps : Array Value) : Prop where
  enters : Enters P f
  call : ∀ a b w n, K n w → g a + g b ≤ M → Calls P f (#[enc a, enc b] ++ caps) w fun e w' => e = .returned (enc (J a b)) ∧ Xt Sp w w' ∧ K (n + 1) w'
  low : ∀ n w, K n w → ∀ s, Sp = some s → s < w.heap.size
  keep : ∀ n w w', K n w → (∀ s, Sp = some s → w'.heap[s]? = w.heap[s]?) → K n w'
  wtJ : ∀ a b, g (J a b) ≤ g a + g b
namespace JoinOK
variable {S : Type} {P : Program} {enc : S → Value} {Sp : Option Nat} {K : Nat → World → Prop} {g : S → Nat} {M : Nat} {J : S → S → S} {f : FuncId} {caps : Array Value}
theorem kext (h : JoinOK P enc Sp K g M J f caps) {n : Nat} {w w' : World} (hk : K n w) (hx : Ext w w') : K n w' :=
  h.keep n w w' hk fun s hs => hx.below.block s (h.low n w hk s hs)
theorem kset (h : JoinOK P enc Sp K g M J f caps) {n : Nat} {w : World} (hk : K n w) {b o : Nat} {u : Value} (hb : Sp ≠ some b) : K n (w.setCell ⟨b, o, none⟩ u) :=
  h.keep n w _ hk fun s hs => Below.heap_setCell _ _ _ _ (by rintro rfl; exact hb hs)
theorem fresh (h : JoinOK P enc Sp K g M J f caps) {n : Nat} {w : World} (hk : K n w) : ∀ b, w.heap.size ≤ b → Sp ≠ some b := fun b hb e => by
  have := h.low n w hk b e; omega
end JoinOK
/-- The same of a function value that has its first arguments; g: a weight of a summary, M: as heavy as what is joined may be; K n: n joins were counted. -/
structure JoinOP {S : Type} (P : Program) (enc : S → Value) (Sp : Option Nat) (K : Nat → World → Prop) (g : S → Nat) (M : Nat) (J : S → S → S) (f : FuncId) (caps : Array Value) : Prop where
  enters : Enters P f
  call : ∀ a b w n, K n w → g a + g b ≤ M → Calls P f (caps ++ #[enc a, enc b]) w fun e w' => e = .returned (enc (J a b)) ∧ Xt Sp w w' ∧ K (n + 1) w'
  low : ∀ n w, K n w → ∀ s, Sp = some s → s < w.heap.size
  keep : ∀ n w w', K n w → (∀ s, Sp = some s → w'.heap[s]? = w.heap[s]?) → K n w'
  wtJ : ∀ a b, g (J a b) ≤ g a + g b
namespace JoinOP
variable {S : Type} {P : Program} {enc : S → Value} {Sp : Option Nat} {K : Nat → World → Prop} {g : S → Nat} {M : Nat} {J : S → S → S} {f : FuncId} {caps : Array Value}
theorem kext (h : JoinOP P enc Sp K g M J f caps) {n : Nat} {w w' : World} (hk : K n w) (hx : Ext w w') : K n w' :=
  h.keep n w w' hk fun s hs => hx.below.block s (h.low n w hk s hs)
theorem kset (h : JoinOP P enc Sp K g M J f caps) {n : Nat} {w : World} (hk : K n w) {b o : Nat} {u : Value} (hb : Sp ≠ some b) : K n (w.setCell ⟨b, o, none⟩ u) :=
  h.keep n w _ hk fun s hs => Below.heap_setCell _ _ _ _ (by rintro rfl; exact hb hs)
theorem fresh (h : JoinOP P enc Sp K g M J f caps) {n : Nat} {w : World} (hk : K n w) : ∀ b, w.heap.size ≤ b → Sp ≠ some b := fun b hb e => by
  have := h.low n w hk b e; omega
end JoinOP
end Go.Proofs.YtokcgnbjkbhmiaaDoor
namespace Go.Proofs.YtokcgnbjkbhmiaaDoor
open Go.RowKit
set_option linter.unusedSimpArgs false
set_option linter.unusedVariables false

/-- Nothing that is there is changed but for some blocks. -/
structure Xl (L : List Nat) (w w' : World) : Prop where
  os : w'.os = w.os
  tape : w'.tape = w.tape
  output : w'.output = w.output
  size : w.heap.size ≤ w'.heap.size
  block : ∀ k, k < w.heap.size → k ∉ L → w'.heap[k]? = w.heap[k]?
namespace Xl
variable {L : List Nat} {w w' w0 : World}
theorem of (h : Ext w w') : Xl L w w' := ⟨h.below.os, h.below.tape, h.below.output, h.below.size, fun k hk _ => h.below.block k hk⟩
theorem ofXt {S : Option Nat} (h : Xt S w w') (hL : ∀ s, S = some s → s ∈ L) : Xl L w w' := ⟨h.os, h.tape, h.output, h.size, fun k hk hn => h.block k hk fun e => hn (hL k e)⟩
theorem refl (w : World) : Xl L w w := of (Ext.refl w)
theorem trans (a b c : World) (h : Xl L a b) (k : Xl L b c) : Xl L a c :=
  ⟨k.os.trans h.os, k.tape.trans h.tape, k.output.trans h.output, Nat.le_trans h.size k.size, fun i hi hn => (k.block i (Nat.lt_of_lt_of_le hi h.size) hn).trans (h.block i hi hn)⟩
theorem set (h : Xl L w w') {G o : Nat} {u : Value} (hG : G ∈ L) : Xl L w (w'.setCell ⟨G, o, none⟩ u) :=
  ⟨h.os, h.tape, h.output, (by simpa [World.setCell] using h.size), fun k hk hn => (Below.heap_setCell _ _ _ _ (by rintro rfl; exact hn hG)).trans (h.block k hk hn)⟩
theorem cell (hb : Xl L w w') {k o : Nat} (hk : k < w.heap.size) (hn : k ∉ L) : w'.cell? ⟨k, o, none⟩ = w.cell? ⟨k, o, none⟩ := by
  unfold World.cell?
  simp only [hb.block k hk hn]
theorem hf (hb : Xl L w w') {k o : Nat} (hk : k < w.heap.size) (hn : k ∉ L) : w'.frozen? ⟨k, o, none⟩ = w.frozen? ⟨k, o, none⟩ := by
  unfold World.frozen?
  simp only [hb.block k hk hn]
theorem ext (h0 : Ext w0 w) (h : Xl L w w') (hL : ∀ k, k ∈ L → w0.heap.size ≤ k) : Ext w0 w' := by
  have hb := h0.below
  exact Ext.of ⟨h.os.trans hb.os, h.tape.trans hb.tape, h.output.trans hb.output, Nat.le_trans hb.size h.size, fun k hk =>
    (h.block k (Nat.lt_of_lt_of_le hk hb.size) (fun e => by have := hL k e; omega)).trans (hb.block k hk)⟩
theorem xt {S : Option Nat} (h : Xl L w w') (hL : ∀ k, k ∈ L → S = some k) : Xt S w w' := ⟨h.os, h.tape, h.output, h.size, fun k hk hn => h.block k hk fun e => hn (hL k e)⟩
theorem xt1 {b : Nat} (h : Xl [b] w w') : Xt (some b) w w' := h.xt (by simp)
end Xl
theorem Xt.none {S : Option Nat} {w w' : World} (h : Xt none w w') : Xt S w w' := Xt.of h.ext
theorem Xt.setAt {w : World} {b o : Nat} {u : Value} : Xt (some b) w (w.setCell ⟨b, o, Option.none⟩ u) :=
  ⟨rfl, rfl, rfl, by simp [World.setCell], fun k hk hn => Below.heap_setCell _ _ _ _ (by rintro rfl; exact hn rfl)⟩
theorem Ext.setX {w w' : World} (h : Ext w w') {b o : Nat} {u : Value} (hp : w.heap.size ≤ b) : Ext w (w'.setCell ⟨b, o, Option.none⟩ u) := Ext.of (Below.setCell h.below hp u)
theorem w64in {n : Int} (h : -9223372036854775808 ≤ n ∧ n ≤ 9223372036854775807) : wrap64 n = n := by unfold wrap64; omega
theorem gen_code {P : Program} {c : Code} {Q : Exit → Act → World → Prop} {a : Act} {w : World} (R : World → Prop) (h0 : R w) (h : ∀ W, R W → c.wp P Q a W) : c.wp P Q a w := h w h0
end Go.Proofs.YtokcgnbjkbhmiaaDoor
