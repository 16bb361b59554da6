/- What a tree in memory answers to Get, Rank, At and Len. (One of three instances.) What makes a tree, what copies it, and Put. (One of three instances.) -/
import Derived.Test.YtokcgnbjkbhmiaaDoorMTE4
import Derived.Test.YtokcgnbjkbhmiaaDoorMTP
import Derived.Test.YtokcgnbjkbhmiaaDoorMTA
import Derived.WalkMore
import Derived.Deep.LoopGhost
namespace Go.Proofs.YtokcgnbjkbhmiaaDoor
open Go.RowKit
set_option maxHeartbeats 2000000
set_option maxRecDepth 100000
set_option linter.unusedSimpArgs false
set_option linter.unusedVariables false
theorem en_TGet4 : Enters Tryd.prog 63 := ⟨_, Tryd.func63, by kernel_rfl, rfl⟩
theorem en_TRank4 : Enters Tryd.prog 107 := ⟨_, Tryd.func107, by kernel_rfl, rfl⟩
/-- A node's height, as it lies in memory. -/
def hiOf4 (v : Value) (w : World) : Nat := match v with
  | .pointer (some a) => (match w.cell? ⟨a.block, 15, none⟩ with | some x => (intOf x).toNat | none => 0)
  | _ => 0
theorem hiOf4_eq {Sp : Option Nat} {J : S4 → S4 → S4} {z : S4} {w : World} {pv : Value} {T : T4} (h : IsTree4 Sp J z w pv T) : hiOf4 pv w = T.high := by
  cases T with
  | nil => cases h; rfl
  | node l k v s r =>
    obtain ⟨b, pl, pr, rfl, -, h3, -, -⟩ := h
    show (match w.cell? ⟨b, 15, none⟩ with | some x => (intOf x).toNat | none => 0) = _
    rw [h3.c15]
    simp [intOf]
def zV4 : V4 := ⟨⟨#[]⟩, 0, 0, ⟨#[]⟩, false⟩
/-- A variable of the call's own that holds a value. -/
structure EnB4 (w : World) (b : Nat) (x : V4) : Prop where
  b : w.heap[b]? = some (.cells #[.string x.key, .int .i64 x.ctr, .int .i64 x.node, .string x.val, .bool x.dead] 57 (0, 0))
namespace EnB4
variable {w w' : World} {b : Nat} {x y : V4}
theorem c0 (h : EnB4 w b x) : w.cell? ⟨b, 0, none⟩ = some (.string x.key) := by simp [World.cell?, h.b]
theorem c1 (h : EnB4 w b x) : w.cell? ⟨b, 1, none⟩ = some (.int .i64 x.ctr) := by simp [World.cell?, h.b]
theorem c2 (h : EnB4 w b x) : w.cell? ⟨b, 2, none⟩ = some (.int .i64 x.node) := by simp [World.cell?, h.b]
theorem c3 (h : EnB4 w b x) : w.cell? ⟨b, 3, none⟩ = some (.string x.val) := by simp [World.cell?, h.b]
theorem c4 (h : EnB4 w b x) : w.cell? ⟨b, 4, none⟩ = some (.bool x.dead) := by simp [World.cell?, h.b]
theorem f (h : EnB4 w b x) (o : Nat) : w.frozen? ⟨b, o, none⟩ = false := by simp [World.frozen?, h.b]
theorem lt (h : EnB4 w b x) : b < w.heap.size := (Array.getElem?_eq_some_iff.1 h.b).1
theorem ext (h : EnB4 w b x) (hx : Ext w w') : EnB4 w' b x := ⟨(hx.below.block b h.lt).trans h.b⟩
theorem xt {Sp : Option Nat} (h : EnB4 w b x) (hx : Xt Sp w w') (hn : Sp ≠ some b) : EnB4 w' b x := ⟨(hx.block b h.lt hn).trans h.b⟩
theorem new (w : World) (x : V4) : EnB4 (w.alloc (.cells #[.string x.key, .int .i64 x.ctr, .int .i64 x.node, .string x.val, .bool x.dead] 57)) w.heap.size x := ⟨heap_alloc_new w _⟩
end EnB4
theorem get4_any {Sp : Option Nat} {J : S4 → S4 → S4} {z : S4} {w : World} {tb : Nat} {zz : S4} {jv pv : Value} {T : T4} (k : ByteArray) (ht : TreeAt4 w tb zz jv pv) (h : IsTree4 Sp J z w pv T) :
    Calls Tryd.prog 63 #[.pointer (some ⟨tb, 0, none⟩), .string k] w fun e w' => e = .returned (.tuple #[encV4 ((T.get k).getD zV4), .bool (T.get k).isSome]) ∧ Ext w w' := by
  obtain ⟨t0, t1, t2, t3, t4⟩ := ht
  have htl := cell_lt t0
  have H := hid_mk h
  clear h
  obtain ⟨res, hres⟩ : ∃ res, res = T.get k := ⟨_, rfl⟩
  rw [← hres]
  have HR := hid_mk hres
  clear hres
  go_enter Tryd.func63, Tryd.ntmps63
  go_wp2
  refine gen_code (fun W => EnB4 W w.heap.size zV4 ∧ Ext w W) ⟨EnB4.new w zV4, by (repeat (first | exact Ext.refl _ | apply Ext.drew_left | apply Ext.drew | apply Ext.alloc))⟩ ?_
  rintro W ⟨hb, hxW⟩
  have HB := hid_mk hb
  have HX := hid_mk hxW
  replace H := hid_mk (H.out.xt (Xt.of hxW : Xt Sp w W))
  replace t4 := cell_ext hxW t4
  replace htl := cell_lt t4
  clear t0 t1 t2 t3 hb hxW
  go_step3
  go_wp2
  go_step3
  go_wp2
  go_loop [6] (fun i => ∃ T' : T4, IsTree4 Sp J z W i T' ∧ T'.get k = res) (fun i => hiOf4 i W)
  case atStart => exact ⟨T, H.out, HR.out.symm⟩
  case round =>
    obtain ⟨T', hT, hg⟩ := hrel
    cases T' with
    | nil =>
      cases hT
      have hg' : res = none := hg.symm
      subst hg'
      clear hg
      have s0 := HB.out.c0
      have s1 := HB.out.c1
      have s2 := HB.out.c2
      have s3 := HB.out.c3
      have s4 := HB.out.c4
      have f0 := HB.out.f 0
      have f1 := HB.out.f 1
      have f2 := HB.out.f 2
      have f3 := HB.out.f 3
      have f4 := HB.out.f 4
      have sl := HB.out.lt
      go_wp2
      refine bodyPost_ret (v := .tuple #[encV4 zV4, .bool false]) (by unfold results; rw [Tryd.results63]; go_simp; first | done | rfl | exact ⟨rfl, rfl, rfl, rfl, rfl⟩ | (simp [zV4]; done)) rfl ⟨rfl, ?_⟩
      exact Xl.ext HX.out (L := [w.heap.size]) (Xl.trans _ _ _ ((((((Xl.refl W).set (by simp)).set (by simp)).set (by simp)).set (by simp)).set (by simp)) (Xl.of ((Ext.refl _).alloc _))) (by simp)
    | node l k' v' s' r =>
      have HM := hid_mk (hiOf4_eq hT)
      obtain ⟨b, p1, p2, rfl, -, hN, h1, h2⟩ := hT
      obtain ⟨c0, c1, c2, c3, c4, c5, c6, c7, c8, c9, c10, c11, c12, c13, c14, c15⟩ := hN
      have hbl := cell_lt c0
      have H1 := hid_mk h1
      have H2 := hid_mk h2
      have HG := hid_mk hg
      clear h1 h2 hg
      by_cases q1 : Op.bytesLess k.toList k'.toList = true
      · go_wp2
        go_round
        case rel => exact ⟨l, H1.out, by have := HG.out; rwa [Tr.get, if_pos q1] at this⟩
        case measure => rw [hiOf4_eq H1.out, HM.out]; simp only [Tr.high]; omega
      · have q1' : Op.bytesLess k.toList k'.toList = false := by simpa using q1
        have Q1 := hid_mk q1
        clear q1
        by_cases q2 : Op.bytesLess k'.toList k.toList = true
        · have q3 : (k.toList == k'.toList) = false := by have := bl_ne q2; simpa using fun h => this h.symm
          go_wp2
          go_round
          case rel => exact ⟨r, H2.out, by have := HG.out; rwa [Tr.get, if_neg Q1.out, if_pos q2] at this⟩
          case measure => rw [hiOf4_eq H2.out, HM.out]; simp only [Tr.high]; omega
        · have q2' : Op.bytesLess k'.toList k.toList = false := by simpa using q2
          have q3 : (k.toList == k'.toList) = true := by have := bl_eq q1' q2'; simpa using this
          have hg' : res = some v' := by have := HG.out; rw [Tr.get, if_neg Q1.out, if_neg q2] at this; exact this.symm
          subst hg'
          clear HG q2
          have s0 := HB.out.c0
          have s1 := HB.out.c1
          have s2 := HB.out.c2
          have s3 := HB.out.c3
          have s4 := HB.out.c4
          have f0 := HB.out.f 0
          have f1 := HB.out.f 1
          have f2 := HB.out.f 2
          have f3 := HB.out.f 3
          have f4 := HB.out.f 4
          have sl := HB.out.lt
          go_wp2
          refine bodyPost_ret (v := .tuple #[encV4 v', .bool true]) (by unfold results; rw [Tryd.results63]; go_simp) rfl ⟨rfl, ?_⟩
          exact Xl.ext HX.out (L := [w.heap.size]) ((((((Xl.refl W).set (by simp)).set (by simp)).set (by simp)).set (by simp)).set (by simp)) (by simp)
theorem rank4_any {Sp : Option Nat} {J : S4 → S4 → S4} {z : S4} {w : World} {tb : Nat} {zz : S4} {jv pv : Value} {T : T4} (k : ByteArray) (ht : TreeAt4 w tb zz jv pv) (h : IsTree4 Sp J z w pv T) (hsz : T.size ≤ 4611686018427387904) :
    Calls Tryd.prog 107 #[.pointer (some ⟨tb, 0, none⟩), .string k] w fun e w' => e = .returned (.int .i64 ((T.rank k : Nat) : Int)) ∧ w = w' := by
  obtain ⟨t0, t1, t2, t3, t4⟩ := ht
  have H := hid_mk h
  clear h
  obtain ⟨res, hres⟩ : ∃ res, res = T.rank k := ⟨_, rfl⟩
  rw [← hres]
  have HR := hid_mk hres
  have HS := hid_mk hsz
  clear hres hsz
  go_enter Tryd.func107, Tryd.ntmps107
  go_wp2
  go_loop [5, 6] (fun c i => ∃ (T' : T4) (m : Nat), c = .int .i64 (m : Int) ∧ IsTree4 Sp J z w i T' ∧ m + T'.rank k = res ∧ m + T'.size ≤ 4611686018427387904) (fun _ i => hiOf4 i w)
  case atStart => exact ⟨T, 0, rfl, H.out, by have := HR.out; omega, by have := HS.out; omega⟩
  case round =>
    obtain ⟨T', m, rfl, hT, hg, hb⟩ := hrel
    cases T' with
    | nil =>
      cases hT
      obtain rfl : m = res := by simpa [Tr.rank] using hg
      clear hg
      go_wp2
      go_ret
      exact ⟨rfl, rfl⟩
    | node l k' v' s' r =>
      have HM := hid_mk (hiOf4_eq hT)
      obtain ⟨b, p1, p2, rfl, -, hN, h1, h2⟩ := hT
      obtain ⟨c0, c1, c2, c3, c4, c5, c6, c7, c8, c9, c10, c11, c12, c13, c14, c15⟩ := hN
      have H1 := hid_mk h1
      have H2 := hid_mk h2
      have HG := hid_mk hg
      have hb' : m + (l.size + 1 + r.size) ≤ 4611686018427387904 := hb
      have e1 : IntKind.i64.wrap ((l.size : Int) + 1) = (l.size : Int) + 1 := by rw [IntKind.wrap_i64]; omega
      have e2 : IntKind.i64.wrap ((m : Int) + ((l.size : Int) + 1)) = ((m + (l.size + 1) : Nat) : Int) := by rw [IntKind.wrap_i64]; omega
      have HB := hid_mk hb'
      clear h1 h2 hg hb hb'
      by_cases q1 : Op.bytesLess k'.toList k.toList = true
      · go_wp2_with fail
        refine (many4_any H1.out).mono ?_
        rintro e w1 ⟨rfl, rfl⟩
        go_wp2
        go_round
        case rel => exact ⟨r, m + (l.size + 1), by go_num, H2.out, by have := HG.out; rw [Tr.rank, if_pos q1] at this; omega, by have := HB.out; omega⟩
        case measure => rw [hiOf4_eq H2.out, HM.out]; simp only [Tr.high]; omega
      · have q1' : Op.bytesLess k'.toList k.toList = false := by simpa using q1
        have Q1 := hid_mk q1
        clear q1
        go_wp2
        go_round
        case rel => exact ⟨l, m, rfl, H1.out, by have := HG.out; rwa [Tr.rank, if_neg Q1.out] at this, by have := HB.out; omega⟩
        case measure => rw [hiOf4_eq H1.out, HM.out]; simp only [Tr.high]; omega
theorem len4_any {Sp : Option Nat} {J : S4 → S4 → S4} {z : S4} {w : World} {tb : Nat} {zz : S4} {jv pv : Value} {T : T4} (ht : TreeAt4 w tb zz jv pv) (h : IsTree4 Sp J z w pv T) :
    Calls Tryd.prog 60 #[.pointer (some ⟨tb, 0, none⟩)] w fun e w' => e = .returned (.int .i64 ((T.size : Nat) : Int)) ∧ w = w' := by
  obtain ⟨t0, t1, t2, t3, t4⟩ := ht
  have H := hid_mk h
  clear h
  go_enter Tryd.func60, Tryd.ntmps60
  go_wp2_with fail
  refine (many4_any H.out).mono ?_
  rintro e w1 ⟨rfl, rfl⟩
  go_wp2
  go_ret
  exact ⟨rfl, rfl⟩
end Go.Proofs.YtokcgnbjkbhmiaaDoor
namespace Go.Proofs.YtokcgnbjkbhmiaaDoor
open Go.RowKit
set_option maxHeartbeats 2000000
set_option maxRecDepth 100000
set_option linter.unusedSimpArgs false
set_option linter.unusedVariables false
theorem en_TPut4 : Enters Tryd.prog 73 := ⟨_, Tryd.func73, by kernel_rfl, rfl⟩
theorem en_TNew4 : Enters Tryd.prog 70 := ⟨_, Tryd.func70, by kernel_rfl, rfl⟩
@[go_sem] theorem run_store_func {P : Program} {w : World} {a : Addr} {m : Mode} (f : Fn) (b c : Array Value) : (store a (.func f b c) m).run P w = stored P w a (.func f b c) m := run_store P w a _ m rfl
/-- A tree's own cells, of which the root may be written. -/
structure TreeW4 (w : World) (b : Nat) (z : S4) (f : FuncId) (caps : Array Value) (rv : Value) : Prop where
  at_ : TreeAt4 w b z (.func (.func f) caps #[]) rv
  fz : w.frozen? ⟨b, 4, none⟩ = false
theorem TreeW4.xt {Sp : Option Nat} {w w' : World} {b : Nat} {z : S4} {f : FuncId} {caps : Array Value} {rv : Value} (q : TreeW4 w b z f caps rv) (hx : Xt Sp w w') (hn : Sp ≠ some b) : TreeW4 w' b z f caps rv :=
  ⟨q.at_.xt hx hn, hx.fz q.at_.c4 hn q.fz⟩
theorem TreeW4.set {w : World} {b : Nat} {z : S4} {f : FuncId} {caps : Array Value} {rv pv : Value} (q : TreeW4 w b z f caps rv) : TreeW4 (w.setCell ⟨b, 4, none⟩ pv) b z f caps pv :=
  ⟨⟨(tset_neo (by decide)).trans q.at_.c0, (tset_neo (by decide)).trans q.at_.c1, (tset_neo (by decide)).trans q.at_.c2, (tset_neo (by decide)).trans q.at_.c3, tset_eq q.at_.c4⟩, tset_fz q.fz⟩
/-- No node lies where a tree's own cells lie. -/
theorem TreeAt4.no {w : World} {b : Nat} {z : S4} {f : FuncId} {caps : Array Value} {rv : Value} (q : TreeAt4 w b z (.func (.func f) caps #[]) rv) {k : ByteArray} {v : V4} {s sm : S4} {pl pr : Value} {n h : Int} : ¬ NodeAt4 w b k v s sm pl pr n h := by
  intro hN
  have h1 := q.c0.symm.trans hN.c0
  simp at h1
theorem IsTree4.to {Sp Sq : Option Nat} {J : S4 → S4 → S4} {z : S4} {w : World} (hq : ∀ b, Sq = some b → ∀ k v s sm pl pr n h, ¬ NodeAt4 w b k v s sm pl pr n h) : ∀ {pv : Value} {T : T4}, IsTree4 Sp J z w pv T → IsTree4 Sq J z w pv T
  | _, .nil, h => h
  | _, .node l k v s r, ⟨b, pl, pr, h1, h2, h3, h4, h5⟩ => ⟨b, pl, pr, h1, fun e => hq b e _ _ _ _ _ _ _ _ h3, h3, h4.to hq, h5.to hq⟩
theorem IsTree4.none {Sp : Option Nat} {J : S4 → S4 → S4} {z : S4} {w : World} {pv : Value} {T : T4} (h : IsTree4 Sp J z w pv T) : IsTree4 Option.none J z w pv T := h.to (by simp)
theorem IsTree4.away {Sp Sq : Option Nat} {J : S4 → S4 → S4} {z : S4} {w w' : World} (hq : ∀ b, Sq = some b → ∀ k v s sm pl pr n h, ¬ NodeAt4 w b k v s sm pl pr n h) (hx : Xt Sq w w') : ∀ {pv : Value} {T : T4}, IsTree4 Sp J z w pv T → IsTree4 Sp J z w' pv T
  | _, .nil, h => h
  | _, .node l k v s r, ⟨b, pl, pr, h1, h2, h3, h4, h5⟩ => ⟨b, pl, pr, h1, h2, h3.xt hx fun e => hq b e _ _ _ _ _ _ _ _ h3, h4.away hq hx, h5.away hq hx⟩
/-- What Put hands back. -/
def Putted4 (Sp : Option Nat) (J : S4 → S4 → S4) (z : S4) (K : Nat → World → Prop) (n tb : Nat) (zz : S4) (f : FuncId) (caps : Array Value) (T : T4) (k : ByteArray) (v : V4) (s : S4) (w : World) (e : Ending) (w' : World) : Prop :=
  e = .returned (.tuple #[encV4 ((T.get k).getD zV4), .bool (T.get k).isSome]) ∧ ∃ pv j, TreeW4 w' tb zz f caps pv ∧ IsTree4 Sp J z w' pv (T.put k v s) ∧ Xl (tb :: Sp.toList) w w' ∧ K (n + j) w' ∧ j ≤ 6 * T.high + 2
theorem new4_any (zz : S4) (f : FuncId) (caps : Array Value) (w : World) :
    Calls Tryd.prog 70 #[encS4 zz, (.func (.func f) caps #[])] w fun e w' => ∃ tb, e = .returned (.pointer (some ⟨tb, 0, none⟩)) ∧ w.heap.size ≤ tb ∧ TreeW4 w' tb zz f caps (.pointer none) ∧ Ext w w' := by
  go_enter Tryd.func70, Tryd.ntmps70
  go_wp2
  go_ret
  exact ⟨_, rfl, by simp, ⟨⟨by go_simp, by go_simp, by go_simp, by go_simp, by go_simp⟩, by go_simp⟩, by (repeat (first | exact Ext.refl _ | apply Ext.drew_left | apply Ext.drew | apply Ext.alloc))⟩
/-- A variable of the call's own that holds a summary. -/
structure TlB4 (w : World) (b : Nat) (x : S4) : Prop where
  b : w.heap[b]? = some (.cells #[.int .i64 x.1, .int .u64 x.2.1, .int .u64 x.2.2] 32 (0, 0))
namespace TlB4
variable {w w' : World} {b : Nat} {x : S4}
theorem c0 (h : TlB4 w b x) : w.cell? ⟨b, 0, none⟩ = some (.int .i64 x.1) := by simp [World.cell?, h.b]
theorem c1 (h : TlB4 w b x) : w.cell? ⟨b, 1, none⟩ = some (.int .u64 x.2.1) := by simp [World.cell?, h.b]
theorem c2 (h : TlB4 w b x) : w.cell? ⟨b, 2, none⟩ = some (.int .u64 x.2.2) := by simp [World.cell?, h.b]
theorem lt (h : TlB4 w b x) : b < w.heap.size := (Array.getElem?_eq_some_iff.1 h.b).1
theorem ext (h : TlB4 w b x) (hx : Ext w w') : TlB4 w' b x := ⟨(hx.below.block b h.lt).trans h.b⟩
theorem xt {Sp : Option Nat} (h : TlB4 w b x) (hx : Xt Sp w w') (hn : Sp ≠ some b) : TlB4 w' b x := ⟨(hx.block b h.lt hn).trans h.b⟩
end TlB4
theorem EnB4.ofSet (w : World) (x y : V4) : EnB4 (((((( w.alloc (.cells #[.string y.key, .int .i64 y.ctr, .int .i64 y.node, .string y.val, .bool y.dead] 57)).setCell ⟨w.heap.size, 0, none⟩ (.string x.key)).setCell ⟨w.heap.size, 1, none⟩ (.int .i64 x.ctr)).setCell ⟨w.heap.size, 2, none⟩ (.int .i64 x.node)).setCell ⟨w.heap.size, 3, none⟩ (.string x.val)).setCell ⟨w.heap.size, 4, none⟩ (.bool x.dead)) w.heap.size x :=
  ⟨by rw [heap_setCell_same _ _ _ _ _ _ (heap_setCell_same _ _ _ _ _ _ (heap_setCell_same _ _ _ _ _ _ (heap_setCell_same _ _ _ _ _ _ (heap_setCell_same _ _ _ _ _ _ (heap_alloc_new w _)))))]; rfl⟩
theorem gen_callsT {P : Program} {f : FuncId} {args : Array Value} {w : World} {Q : Ending → World → Prop} (R : World → Prop) (h0 : R w) (h : ∀ W, R W → Calls P f args W Q) : Calls P f args w Q := h w h0
theorem xl_back {L : List Nat} {w X Y : World} {b : Nat} (h : Xl L w X) (k : Xt (some b) X Y) (hb : w.heap.size ≤ b) : Xl L w Y :=
  ⟨k.os.trans h.os, k.tape.trans h.tape, k.output.trans h.output, Nat.le_trans h.size k.size, fun x hx hn => (k.block x (Nat.lt_of_lt_of_le hx h.size) (fun e => by cases e; omega)).trans (h.block x hx hn)⟩
theorem tput4_any {Sp : Option Nat} {K : Nat → World → Prop} {g : S4 → Nat} {M : Nat} {J : S4 → S4 → S4} {f : FuncId} {caps : Array Value} {z : S4} (hJ : JoinOP Tryd.prog encS4 Sp K g M J f caps)
    {tb n : Nat} {zz : S4} {pv : Value} {T : T4} {w : World} (k : ByteArray) (v : V4) (s : S4)
    (ht : TreeW4 w tb zz f caps pv) (htn : Sp ≠ some tb) (h : IsTree4 Sp J z w pv T) (hk : K n w) (hsz : T.size + 1 ≤ 4611686018427387904) (hwt : T.wt g + g s ≤ M) :
    Calls Tryd.prog 73 #[.pointer (some ⟨tb, 0, none⟩), .string k, encV4 v, encS4 s] w (Putted4 Sp J z K n tb zz f caps T k v s w) := by
  have HT := hid_mk ht
  have H := hid_mk h
  have HK := hid_mk hk
  have HS := hid_mk (And.intro hsz hwt)
  have HFR := hid_mk (hJ.fresh hk)
  obtain ⟨⟨t0, t1, t2, t3, t4⟩, f0⟩ := ht
  have htblt := cell_lt t0
  obtain ⟨gv, hgv⟩ : ∃ gv, T.get k = gv := ⟨_, rfl⟩
  have HGV := hid_mk hgv
  clear h hk hsz hwt hgv
  go_enter Tryd.func73, Tryd.ntmps73
  go_wp2_with fail
  refine gen_callsT (fun W => EnB4 W w.heap.size v ∧ TlB4 W (w.heap.size + 1) s ∧ EnB4 W (w.heap.size + 1 + 1) zV4 ∧ Ext w W) ⟨?_, ?_, ?_, by (repeat (first | exact Ext.refl _ | apply Ext.drew_left | apply Ext.drew | apply Ext.alloc))⟩ ?_
  · exact ⟨(Below.heap_alloc _ _ _ (by simp; omega)).trans ((Below.heap_alloc _ _ _ (by simp)).trans (heap_alloc_new w _))⟩
  · have h := heap_alloc_new (w.alloc (.cells #[.string v.key, .int .i64 v.ctr, .int .i64 v.node, .string v.val, .bool v.dead] 57)) (.cells #[.int .i64 s.1, .int .u64 s.2.1, .int .u64 s.2.2] 32)
    rw [World.size_alloc] at h
    exact ⟨(Below.heap_alloc _ _ _ (by simp)).trans h⟩
  · have h := heap_alloc_new ((w.alloc (.cells #[.string v.key, .int .i64 v.ctr, .int .i64 v.node, .string v.val, .bool v.dead] 57)).alloc (.cells #[.int .i64 s.1, .int .u64 s.2.1, .int .u64 s.2.2] 32)) (.cells #[.string ⟨#[]⟩, .int .i64 0, .int .i64 0, .string ⟨#[]⟩, .bool false] 57)
    rw [World.size_alloc, World.size_alloc] at h
    exact ⟨h⟩
  rintro W0 ⟨h6, h7, h8, hxW⟩
  have H6 := hid_mk h6
  have H7 := hid_mk h7
  have H8 := hid_mk h8
  have HXW := hid_mk hxW
  refine (get4_any k (HT.out.at_.xt (Xt.of hxW) htn) (H.out.xt (Xt.of hxW))).mono ?_
  clear h6 h7 h8 hxW t0 t1 t2 t3 t4 f0 htblt
  rintro e W1 ⟨rfl, hx1⟩
  rw [HGV.out]
  generalize hmv : gv.getD zV4 = mv
  generalize hms : gv.isSome = ms
  have HM := hid_mk (And.intro hmv hms)
  replace HXW := hid_mk (Ext.trans _ _ _ HXW.out hx1)
  replace H6 := hid_mk (H6.out.ext hx1)
  replace H7 := hid_mk (H7.out.ext hx1)
  replace H8 := hid_mk (H8.out.ext hx1)
  clear hmv hms hx1
  go_wp2_with fail
  obtain ⟨q10, hq10⟩ : ∃ q, W1.heap.size = q := ⟨_, rfl⟩
  refine gen_code (fun W => EnB4 W q10 mv ∧ Ext W1 W) ⟨by rw [← hq10]; exact EnB4.new W1 mv, by (repeat (first | exact Ext.refl _ | apply Ext.drew_left | apply Ext.drew | apply Ext.alloc | (refine Ext.setT1 ?_ (by simp))))⟩ ?_
  rintro W ⟨h10, hx2⟩
  simp only [hq10]
  have H10 := hid_mk h10
  have HQ := hid_mk (show w.heap.size ≤ q10 by have := HXW.out.below.size; omega)
  replace HXW := hid_mk (Ext.trans _ _ _ HXW.out hx2)
  replace H6 := hid_mk (H6.out.ext hx2)
  replace H7 := hid_mk (H7.out.ext hx2)
  replace H8 := hid_mk (H8.out.ext hx2)
  clear h10 hx2 hq10
  have hfr6 : Sp ≠ some w.heap.size := HFR.out _ (Nat.le_refl _)
  have hfr7 : Sp ≠ some (w.heap.size + 1) := HFR.out _ (by omega)
  have hfr8 : Sp ≠ some (w.heap.size + 1 + 1) := HFR.out _ (by omega)
  have hfr10 : Sp ≠ some q10 := HFR.out _ HQ.out
  have hxn : Sp ≠ some W.heap.size := HFR.out _ HXW.out.below.size
  obtain ⟨⟨t0, t1, t2, t3, t4⟩, f0⟩ := HT.out.xt (Xt.of HXW.out) htn
  have htblt := cell_lt t0
  have a0 := H6.out.c0
  have a1 := H6.out.c1
  have a2 := H6.out.c2
  have a3 := H6.out.c3
  have a4 := H6.out.c4
  have al := H6.out.lt
  have d0 := H7.out.c0
  have d1 := H7.out.c1
  have d2 := H7.out.c2
  have dl := H7.out.lt
  refine wp_region_held_plan (Xt Sp) (fun i => i != 14) (.quiet 0 (.quiet 1 (.quiet 2 (.quiet 3 (.quiet 4 (.quiet 5 (.quiet 6 (.quiet 7 (.quiet 8 (.quiet 9 (.alt 10 (.alt 11 (.alt 12 (.quiet 13 (.alt 14 .done .stop)) .stop) .stop) .stop))))))))))) (by kernel_rfl) (by kernel_rfl) Xt.refl Xt.trans (by intro c a w d v h; cases d <;> exact h) (fun ops HO => ?_)
  refine plan_read _ (hi_of HO rfl) rfl (fun w' hE => by (repeat (with_reducible replace hE := Xt.unD hE)); have hcE := hE.hc; clear hE; go_simp; rfl) ?_
  simp only [Act.put, List.setIfInBounds_toArray, List.set_cons_succ, List.set_cons_zero]
  refine plan_read _ (hi_of HO rfl) rfl (fun w' hE => by (repeat (with_reducible replace hE := Xt.unD hE)); have hcE := hE.hc; clear hE; go_simp; rfl) ?_
  simp only [Act.put, List.setIfInBounds_toArray, List.set_cons_succ, List.set_cons_zero]
  refine plan_read _ (hi_of HO rfl) rfl (fun w' hE => by (repeat (with_reducible replace hE := Xt.unD hE)); have hcE := hE.hc; clear hE; go_simp; rfl) ?_
  simp only [Act.put, List.setIfInBounds_toArray, List.set_cons_succ, List.set_cons_zero]
  refine plan_read _ (hi_of HO rfl) rfl (fun w' hE => by (repeat (with_reducible replace hE := Xt.unD hE)); have hcE := hE.hc; clear hE; go_simp; rfl) ?_
  simp only [Act.put, List.setIfInBounds_toArray, List.set_cons_succ, List.set_cons_zero]
  refine plan_read _ (hi_of HO rfl) rfl (fun w' hE => by (repeat (with_reducible replace hE := Xt.unD hE)); have hcE := hE.hc; clear hE; go_simp; rfl) ?_
  simp only [Act.put, List.setIfInBounds_toArray, List.set_cons_succ, List.set_cons_zero]
  refine plan_read _ (hi_of HO rfl) rfl (fun w' hE => by (repeat (with_reducible replace hE := Xt.unD hE)); have hcE := hE.hc; clear hE; go_simp; rfl) ?_
  simp only [Act.put, List.setIfInBounds_toArray, List.set_cons_succ, List.set_cons_zero]
  refine plan_read _ (hi_of HO rfl) rfl (fun w' hE => by (repeat (with_reducible replace hE := Xt.unD hE)); have hcE := hE.hc; clear hE; go_simp; rfl) ?_
  simp only [Act.put, List.setIfInBounds_toArray, List.set_cons_succ, List.set_cons_zero]
  refine plan_read _ (hi_of HO rfl) rfl (fun w' hE => by (repeat (with_reducible replace hE := Xt.unD hE)); have hcE := hE.hc; clear hE; go_simp; rfl) ?_
  simp only [Act.put, List.setIfInBounds_toArray, List.set_cons_succ, List.set_cons_zero]
  refine plan_read _ (hi_of HO rfl) rfl (fun w' hE => by (repeat (with_reducible replace hE := Xt.unD hE)); have hcE := hE.hc; clear hE; go_simp; rfl) ?_
  simp only [Act.put, List.setIfInBounds_toArray, List.set_cons_succ, List.set_cons_zero]
  refine plan_read _ (hi_of HO rfl) rfl (fun w' hE => by (repeat (with_reducible replace hE := Xt.unD hE)); have hcE := hE.hc; clear hE; go_simp; rfl) ?_
  simp only [Act.put, List.setIfInBounds_toArray, List.set_cons_succ, List.set_cons_zero]
  refine plan_loud1 (hi_of HO rfl) rfl ?_
  go_simp
  refine ⟨by (repeat (first | exact Xt.refl _ | apply Xt.drew_left | apply Xt.drew | apply Xt.alloc)), ?_⟩
  refine plan_call1 en_Tput4 (hi_of HO rfl) rfl rfl (by go_simp; rfl) (by exact (put4_any hJ (xb := W.heap.size) (k := k) (v := v) (s := s) htn hxn T (HT.out.at_.xt (Xt.trans _ _ _ (Xt.of HXW.out) (Xt.of (by (repeat (first | exact Ext.refl _ | apply Ext.drew_left | apply Ext.drew | apply Ext.alloc))))) htn) ⟨by go_simp, by go_simp, by go_simp, by go_simp, by go_simp, by go_simp, by go_simp, by go_simp, by go_simp⟩ (H.out.xt (Xt.trans _ _ _ (Xt.of HXW.out) (Xt.of (by (repeat (first | exact Ext.refl _ | apply Ext.drew_left | apply Ext.drew | apply Ext.alloc)))))) (hJ.kext HK.out (Ext.trans _ _ _ HXW.out (by (repeat (first | exact Ext.refl _ | apply Ext.drew_left | apply Ext.drew | apply Ext.alloc))))) HS.out.1 HS.out.2)) ?_
  rintro e w9 ⟨pv9, j9, rfl, hT, hx, hk, hj⟩
  obtain ⟨pa9, rfl, -⟩ := hT.ptr
  refine ⟨_, rfl, fun _ => hx, ?_⟩
  have HX9 := hid_mk (Xt.trans W _ _ (Xt.of (by (repeat (first | exact Ext.refl _ | apply Ext.drew_left | apply Ext.drew | apply Ext.alloc)))) hx)
  have HT9 := hid_mk hT
  have HK9 := hid_mk hk
  have HJ9 := hid_mk hj
  have HTW := hid_mk (HT.out.xt (Xt.trans _ _ _ (Xt.of HXW.out) HX9.out) htn)
  obtain ⟨⟨y0, y1, y2, y3, y4⟩, y5⟩ := HTW.out
  have hylt := cell_lt y0
  have H8' := hid_mk (H8.out.xt HX9.out hfr8)
  have H10' := hid_mk (H10.out.xt HX9.out hfr10)
  clear hx hT hk hj a0 a1 a2 a3 a4 al d0 d1 d2 dl
  simp only [Act.put, List.setIfInBounds_toArray, List.set_cons_succ, List.set_cons_zero]
  refine plan_loud1 (hi_of HO rfl) rfl ?_
  go_simp
  refine ⟨by (repeat (first | exact Xt.refl _ | apply Xt.drew_left | apply Xt.drew | apply Xt.alloc)), ?_⟩
  refine plan_read _ (hi_of HO rfl) rfl (fun w' hE => by (repeat (with_reducible replace hE := Xt.unD hE)); have hcE := hE.hc; clear hE; go_simp; rfl) ?_
  simp only [Act.put, List.setIfInBounds_toArray, List.set_cons_succ, List.set_cons_zero]
  refine plan_loud1 (hi_of HO rfl) rfl ?_
  go_simp
  skip
  refine plan_done ?fin101
  clear HO t0 t1 t2 t3 t4 f0 htblt y0 y1 y2 y3 y4 y5 hylt
  have HN8 := hid_mk (show tb ≠ w.heap.size + 1 + 1 by have := cell_lt HT.out.at_.c0; omega)
  have HN10 := hid_mk (show tb ≠ q10 by have := cell_lt HT.out.at_.c0; have := HQ.out; omega)
  refine gen_world (P := Tryd.prog) (fun X => TreeW4 X tb zz f caps (.pointer pa9) ∧ IsTree4 Sp J z X (.pointer pa9) (T.put k v s) ∧ Xl (tb :: Sp.toList) w X ∧ K (n + j9) X ∧ EnB4 X (w.heap.size + 1 + 1) zV4 ∧ EnB4 X q10 mv)
    ⟨HTW.out.set, HT9.out.away (Sq := some tb) (by rintro b e k' v' s' sm pl pr n' h'; cases e; exact HTW.out.at_.no) Xt.setAt, (Xl.ofXt (Xt.trans _ _ _ (Xt.of HXW.out) HX9.out) (by intro s hs; simp [hs])).set (by simp), hJ.kset HK9.out htn,
      H8'.out.xt (Xt.setAt (b := tb)) (by intro e; cases e; exact HN8.out rfl), H10'.out.xt (Xt.setAt (b := tb)) (by intro e; cases e; exact HN10.out rfl)⟩ ?_
  rintro X ⟨hT, hI, hX, hk, h8, h10⟩
  have HTX := hid_mk hT
  have HIX := hid_mk hI
  have HXX := hid_mk hX
  have HKX := hid_mk hk
  have H8X := hid_mk h8
  have H10X := hid_mk h10
  clear hT hI hX hk h8 h10 H6 H7 H8 H10 H8' H10' HX9 HT9 HK9 HTW
  have s0 := H8X.out.c0
  have s1 := H8X.out.c1
  have s2 := H8X.out.c2
  have s3 := H8X.out.c3
  have s4 := H8X.out.c4
  have g0 := H8X.out.f 0
  have g1 := H8X.out.f 1
  have g2 := H8X.out.f 2
  have g3 := H8X.out.f 3
  have g4 := H8X.out.f 4
  have sl := H8X.out.lt
  have r0 := H10X.out.c0
  have r1 := H10X.out.c1
  have r2 := H10X.out.c2
  have r3 := H10X.out.c3
  have r4 := H10X.out.c4
  have rl := H10X.out.lt
  go_wp2
  refine bodyPost_ret (v := .tuple #[encV4 mv, .bool ms]) (by unfold results; rw [Tryd.results73]; go_simp; first | done | rfl) rfl ?_
  have hx8 : Xt (some (w.heap.size + 1 + 1)) X (((((X.setCell ⟨w.heap.size + 1 + 1, 0, none⟩ (.string mv.key)).setCell ⟨w.heap.size + 1 + 1, 1, none⟩ (.int .i64 mv.ctr)).setCell ⟨w.heap.size + 1 + 1, 2, none⟩ (.int .i64 mv.node)).setCell ⟨w.heap.size + 1 + 1, 3, none⟩ (.string mv.val)).setCell ⟨w.heap.size + 1 + 1, 4, none⟩ (.bool mv.dead)) :=
    Xt.trans _ _ _ (Xt.trans _ _ _ (Xt.trans _ _ _ (Xt.trans _ _ _ Xt.setAt Xt.setAt) Xt.setAt) Xt.setAt) Xt.setAt
  have hn8 : (some (w.heap.size + 1 + 1) : Option Nat) ≠ some tb := by intro e; cases e; exact HN8.out rfl
  refine ⟨by rw [HGV.out, HM.out.1, HM.out.2], .pointer pa9, j9, HTX.out.xt hx8 hn8, HIX.out.away (Sq := some (w.heap.size + 1 + 1)) (by rintro b e k' v' s' sm pl pr n' h' hN; cases e; have e1 := s2.symm.trans hN.c2; have e5 := s3.symm.trans hN.c3; cases e5) hx8, ?_,
    hJ.kset (hJ.kset (hJ.kset (hJ.kset (hJ.kset HKX.out hfr8) hfr8) hfr8) hfr8) hfr8, HJ9.out⟩
  exact xl_back HXX.out hx8 (by omega)
end Go.Proofs.YtokcgnbjkbhmiaaDoor
