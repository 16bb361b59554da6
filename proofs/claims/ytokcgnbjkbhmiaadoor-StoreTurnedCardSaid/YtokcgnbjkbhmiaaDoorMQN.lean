/- StoreTurned: the walk (entries taken in another order). -/
import Derived.Test.YtokcgnbjkbhmiaaDoorMQL
import Derived.Test.YtokcgnbjkbhmiaaDoorMPA
import Derived.Test.YtokcgnbjkbhmiaaDoorMKG
import Derived.Test.YtokcgnbjkbhmiaaDoorMKC
namespace Go.Proofs.YtokcgnbjkbhmiaaDoor
open Go.RowKit Go.Lib
set_option maxHeartbeats 1500000
set_option maxRecDepth 100000
set_option linter.unusedSimpArgs false
set_option linter.unusedVariables false
theorem en_s8Among : Enters Tryd.prog 26 := ⟨_, Tryd.func26, by kernel_rfl, rfl⟩
theorem en_StoreTurned : Enters Tryd.prog 5 := ⟨_, Tryd.func5, by kernel_rfl, rfl⟩
attribute [-go_sem] Builtin.append_
attribute [local go_sem ↓] eql_ver neq_entE


def tw (x y : Ent) : Bool := decide (x.key = y.key ∧ x.ctr = y.ctr ∧ x.node = y.node ∧ x ≠ y)
/-- No two of the first ones are two texts of one write. -/
def NoTv (L : List Ent) (k : Nat) : Prop := ∀ i j, (hi : i < k) → j < i → (hl : i < L.length) → (hj : j < L.length) → tw L[i] L[j] = false
theorem noTw_all {L : List Ent} (h : NoTv L L.length) : NoTwin L := by
  have key : ∀ i j, (hi : i < L.length) → (hj : j < L.length) → j < i → L[i].key = L[j].key → L[i].ctr = L[j].ctr → L[i].node = L[j].node → L[i] = L[j] := fun i j hi hj hji h1 h2 h3 => by
    have h4 := h i j hi hji hi hj
    unfold tw at h4
    have h5 := of_decide_eq_false h4
    by_cases e : L[i] = L[j]
    · exact e
    · exact absurd ⟨h1, h2, h3, e⟩ h5
  intro x hx y hy h1 h2 h3
  obtain ⟨i, hi, rfl⟩ := List.getElem_of_mem hx
  obtain ⟨j, hj, rfl⟩ := List.getElem_of_mem hy
  rcases Nat.lt_trichotomy i j with h | h | h
  · exact (key j i hj hi h h1.symm h2.symm h3.symm).symm
  · subst h; rfl
  · exact key i j hi hj h h1 h2 h3
def am8 (i n : Int) : Int := if n < 1 then 0 else i % n
theorem among8_any (i n : Int) (hi : -9223372036854775808 ≤ i ∧ i ≤ 9223372036854775807) (hn : -9223372036854775808 ≤ n ∧ n ≤ 9223372036854775807) (w : World) :
    Calls Tryd.prog 26 #[.int .i64 i, .int .i64 n] w fun e w' => e = .returned (.int .i64 (am8 i n)) ∧ w = w' := by
  obtain ⟨r, hr⟩ : ∃ r, r = am8 i n := ⟨_, rfl⟩
  rw [← hr]
  unfold am8 at hr
  go_enter Tryd.func26, Tryd.ntmps26
  by_cases h1 : n < 1
  · rw [if_pos h1] at hr
    subst hr
    go_wp2
    go_ret
    exact ⟨rfl, rfl⟩
  · rw [if_neg h1] at hr
    have h0 : ¬ n = 0 := by omega
    have h00 : ¬ n = -1 := by omega
    have h3 := Int.emod_nonneg i h0
    have h4 := Int.emod_lt_of_pos i (show 0 < n by omega)
    have h5 := Int.tmod_eq_emod (a := i) (b := n)
    have h6 : i % n = 0 → (n ∣ i) := Int.dvd_of_emod_eq_zero
    have h7 : r = if i.tmod n < 0 then i.tmod n + n else i.tmod n := by
      rw [hr, h5]
      by_cases hc : 0 ≤ i ∨ n ∣ i
      · rw [if_pos hc]; simp; omega
      · have h8 : ¬ i % n = 0 := fun e => hc (.inr (h6 e))
        rw [if_neg hc, if_pos (by omega)]; omega
    have H7 := hid_mk h7
    have HB := hid_mk (show -9223372036854775808 ≤ r ∧ r ≤ 9223372036854775807 by omega)
    clear h3 h4 h5 h6 h7 hr
    by_cases h8 : i.tmod n < 0
    · have h9 : wrap64 (i.tmod n + n) = r := by have := HB.out; have e := H7.out; rw [if_pos h8] at e; unfold wrap64; omega
      go_wp2
      go_ret
      exact ⟨rfl, rfl⟩
    · have h9 : i.tmod n = r := by have e := H7.out; rw [if_neg h8] at e; exact e.symm
      have h10 : ¬ r < 0 := h9 ▸ h8
      go_wp2
      go_ret
      exact ⟨rfl, rfl⟩
def rngI (m : Nat) : List Int := (List.range m).map fun j => ((j : Nat) : Int)
theorem rngI_succ (m : Nat) : rngI (m + 1) = rngI m ++ [(m : Int)] := by unfold rngI; rw [List.range_succ, List.map_append]; rfl
theorem rngI_len (m : Nat) : (rngI m).length = m := by simp [rngI]
theorem rngI_mem {m : Nat} {x : Int} (h : x ∈ rngI m) : ∃ j : Nat, j < m ∧ x = (j : Int) := by
  obtain ⟨j, h1, h2⟩ := List.mem_map.1 h
  exact ⟨j, List.mem_range.1 h1, h2.symm⟩
theorem OwG.fz {t : TypeId} {k : Nat} {f : Int → List Value} {w : World} {B g n c o : Nat} {l : List Int} (h : OwG t k f w B (.slice (some ⟨g, 0, none⟩) n c) l) : w.frozen? ⟨g, o, none⟩ = false := by
  rcases h.2 with ⟨e1, -⟩ | ⟨g', cap, cur, e1, e2, e3, -⟩
  · cases e1
  · cases e1
    simp [World.frozen?, e3]
theorem own_rowG {α : Type} {t : TypeId} {k : Nat} {f : α → List Value} {w : World} {B : Nat} {v : Value} {l : List α} (h : OwG t k f w B v l) : ∀ g, v.ownBlock = some g → B ≤ g := fun g hg => by
  rcases h.2 with ⟨e1, -⟩ | ⟨g', cap, cur, e1, e2, -⟩
  · rw [e1] at hg; cases hg
  · rw [e1] at hg
    cases hg
    exact e2
theorem OwG.set1' {α : Type} {t : TypeId} {f : α → List Value} (hf : ∀ a, (f a).length = 1) {w : World} {B g c i n : Nat} {l : List α} {x : α} {u : Value} (h : OwG t 1 f w B (.slice (some ⟨g, 0, none⟩) n c) l) (hn : l.length = n) (hi : i < l.length) (hx : f x = [u]) :
    OwG t 1 f (w.setCell ⟨g, i, none⟩ u) B (.slice (some ⟨g, 0, none⟩) n c) (l.set i x) := by
  subst hn
  have h1 := OwG.set1 hf h hi hx
  rwa [List.length_set] at h1
theorem fd_whole (l : List Ent) : fdT ⟨#[]⟩ ⟨#[]⟩ true l = talL l := by
  unfold fdT
  rw [if_pos rng_whole, sl_whole]
/-- A meter lies beside whatever entries. -/
theorem entSl_meter {w w' : World} {v : Value} {l : List Ent} {mb n : Nat} (h : EntSl w v l) (hm : CountsM mb n w) (hx : Xl [mb] w w') : EntSl w' v l := by
  obtain ⟨a, c, e, h1, h2, h3⟩ := h
  refine ⟨a, c, e, h1, h2, fun hp => ?_⟩
  obtain ⟨b, o, e2, h4⟩ := h3 hp
  refine ⟨b, o, e2, fun i hi => ?_⟩
  have h5 := h4 i hi
  refine entAt_xl h5 hx ?_
  intro hb
  rw [List.mem_singleton] at hb
  subst hb
  have h6 := h5.c0
  unfold World.cell? at h6
  simp only [hm.b] at h6
  rcases hoi : o + i * 5 with _ | j
  · rw [hoi] at h6; simp at h6
  · rw [hoi] at h6; simp at h6
theorem neq_tal_same (w : World) (a b c : Int) : (binOp .neq 32 (.agg #[.int .i64 a, .int .u64 b, .int .u64 c]) (.agg #[.int .i64 a, .int .u64 b, .int .u64 c])).run Tryd.prog w = .ok (.bool false) w := by
  have h := neq_tally w a b c a b c
  simpa using h
attribute [local go_sem ↓] neq_tal_same
/-- The entries that an order names. -/
def byOrd (L : List Ent) (M : List Int) : List Ent := M.map fun j => L.getD j.toNat zE
theorem byOrd_rng (L : List Ent) : byOrd L (rngI L.length) = L := by
  unfold byOrd rngI
  rw [List.map_map]
  apply List.ext_getElem
  · simp
  · intro i h1 h2
    simp [List.getElem?_eq_getElem h2]
theorem byOrd_mem {L : List Ent} {M : List Int} (h : M.Perm (rngI L.length)) (x : Ent) : x ∈ L ↔ x ∈ byOrd L M := by
  have h1 : (byOrd L M).Perm (byOrd L (rngI L.length)) := h.map _
  rw [byOrd_rng] at h1
  exact h1.mem_iff.symm
theorem byOrd_at {L : List Ent} {M : List Int} (h : M.Perm (rngI L.length)) {m : Nat} (hm : m < M.length) : ∃ jn : Nat, ∃ hj : jn < L.length, M[m] = (jn : Int) ∧ (byOrd L M)[m]'(by simpa [byOrd] using hm) = L[jn] := by
  obtain ⟨jn, h1, h2⟩ := rngI_mem (h.mem_iff.1 (List.getElem_mem hm))
  refine ⟨jn, h1, h2, ?_⟩
  simp [byOrd, h2, List.getElem?_eq_getElem h1]
theorem swapI {M : List Int} {i k : Nat} (hi : i < M.length) (hk : k < M.length) : ((M.set i M[k]).set k M[i]).Perm M := List.set_set_perm hi hk
/-- Two stores in one memory, which was there neither of them. -/
structure Two (w0 W : World) (sa ma ta sb mb tb : Nat) (s t : St) : Prop where
  x : Ext w0 W
  a : ∃ n, StW W sa ma ta n s
  b : ∃ n, StW W sb mb tb n t
  ap : Apart sa ma ta sb mb tb
  na : w0.heap.size ≤ sa ∧ w0.heap.size ≤ ma ∧ w0.heap.size ≤ ta
  nb : w0.heap.size ≤ sb ∧ w0.heap.size ≤ mb ∧ w0.heap.size ≤ tb
theorem Apart.symm {sa ma ta sb mb tb : Nat} (h : Apart sa ma ta sb mb tb) : Apart sb mb tb sa ma ta := fun b hb hb' => h b hb' hb
namespace Two
variable {w0 W V : World} {sa ma ta sb mb tb : Nat} {s t s' t' : St}
theorem ext (h : Two w0 W sa ma ta sb mb tb s t) (hx : Ext W V) : Two w0 V sa ma ta sb mb tb s t :=
  ⟨Ext.trans _ _ _ h.x hx, h.a.imp fun n k => k.ext hx, h.b.imp fun n k => k.ext hx, h.ap, h.na, h.nb⟩
theorem postA (h : Two w0 W sa ma ta sb mb tb s t) {n : Nat} (hp : StPost W sa ma ta n s s' V) : Two w0 V sa ma ta sb mb tb s' t := by
  obtain ⟨n', h1, -⟩ := hp.2
  obtain ⟨na, ha⟩ := h.a
  obtain ⟨nb, hb⟩ := h.b
  exact ⟨Xl.ext h.x hp.1 (by have := h.na; simp; omega), ⟨n', h1⟩, ⟨nb, hb.beside ha h.ap.symm hp.1⟩, h.ap, h.na, h.nb⟩
theorem postB (h : Two w0 W sa ma ta sb mb tb s t) {n : Nat} (hp : StPost W sb mb tb n t t' V) : Two w0 V sa ma ta sb mb tb s t' := by
  obtain ⟨n', h1, -⟩ := hp.2
  obtain ⟨na, ha⟩ := h.a
  obtain ⟨nb, hb⟩ := h.b
  exact ⟨Xl.ext h.x hp.1 (by have := h.nb; simp; omega), ⟨na, ha.beside hb h.ap hp.1⟩, ⟨n', h1⟩, h.ap, h.na, h.nb⟩
end Two
theorem storeTurned_walk (L : List Ent) (P : List Int) (lv pv : Value) (w0 : World) (hL : EntSl w0 lv L) (hP : GSl cI 1 w0 pv P) (hPr : ∀ x ∈ P, -9223372036854775808 ≤ x ∧ x ≤ 9223372036854775807) (hl : LanesAt w0) :
    Calls Tryd.prog 5 #[lv, pv] w0 fun e w' => e = .returned (.bool true) ∧ Ext w0 w' := by
  obtain ⟨a, cp, rfl, hlc, hc63, hcells⟩ := hL
  have HCC := hid_mk hcells
  have HP := hid_mk hP
  have HPR := hid_mk hPr
  have HL := hid_mk hl
  have HLC := hid_mk (And.intro hlc hc63)
  clear hcells hP hPr hl hlc hc63
  go_enter Tryd.func5, Tryd.ntmps5
  go_wp2_with fail
  refine (shown8_any w0 HL.out).mono ?_
  rintro r w1 ⟨rfl, hx1⟩
  have HX1 := hid_mk hx1
  clear hx1
  by_cases hbig : 512 < (L.length : Int)
  · go_wp2
    go_ret
    exact ⟨rfl, HX1.out⟩
  have HB := hid_mk (show L.length ≤ 512 by omega)
  go_wp2_with fail
  refine (stNew_any 0 (HL.out.ext HX1.out)).mono ?_
  rintro r w2 (⟨-, -, sa, ma, ta, na, rfl, hba, hsa, hx2⟩ | ⟨h9, -, -⟩)
  rotate_left
  · exact absurd (by omega) h9
  have HBA := hid_mk hba
  have HSA := hid_mk hsa
  have HX2 := hid_mk (Ext.trans _ _ _ HX1.out hx2)
  clear hba hsa hx2
  go_wp2_with fail
  refine (stNew_any 5 (HL.out.ext HX2.out)).mono ?_
  rintro r w3 (⟨-, -, sb, mb, tb, nb, rfl, hbb, hsb, hx3⟩ | ⟨h9, -, -⟩)
  rotate_left
  · exact absurd (by omega) h9
  have HT := hid_mk (show Two w0 w3 sa ma ta sb mb tb (stNil 0) (stNil 5) from ⟨Ext.trans _ _ _ HX2.out hx3, ⟨na, HSA.out.ext hx3⟩, ⟨nb, hsb⟩, by
    intro b hb hb'
    have h1 := HSA.out.lt
    have h2 := HSA.out.mlt
    have h3 := HSA.out.tlt
    simp at hb hb'
    omega, by have := HX1.out.below.size; have := HBA.out; omega, by have := HX2.out.below.size; omega⟩)
  clear hbb hsb hx3 HSA HBA HX2 HX1 hbig
  go_wp2_with fail
  go_loopw [64] (fun i wr => ∃ k : Nat, k ≤ L.length ∧ i = .int .i64 (k : Int) ∧ NoTv L k ∧ Ext w3 wr) (fun i _ => L.length - (intOf i).toNat)
  case atStart => exact ⟨0, Nat.zero_le _, rfl, fun i j hi => by omega, Ext.refl _⟩
  case round =>
    obtain ⟨k, hk, rfl, hnt, hx⟩ := hrel
    have HNT := hid_mk hnt
    have HX := hid_mk hx
    clear hnt hx
    by_cases hlt : k < L.length
    · obtain ⟨b, o, rfl, hcl⟩ := HCC.out (by omega)
      have HLC2 := hid_mk hcl
      obtain ⟨a0, a1, a2, a3, a4⟩ := ((hcl k hlt).ext HT.out.x).ext HX.out
      have hbl := cell_lt a0
      have HTX := hid_mk (HT.out.ext HX.out)
      obtain ⟨x, hxx⟩ : ∃ x, L[k] = x := ⟨_, rfl⟩
      have HXX := hid_mk hxx
      rw [hxx] at a0 a1 a2 a3 a4
      have hk1 : (k : Int) < (L.length : Int) := by omega
      have hk0 : (0 : Int) ≤ (k : Int) := by omega
      have hk2 : (k : Int) ≤ (L.length : Int) := by omega
      have hk3 : (L.length : Int) ≤ (cp : Int) := by have := HLC.out.1; omega
      have hk4 : (k : Int) ≤ (cp : Int) := by omega
      have HW := hid_mk (show wrap64 ((k : Int) + 1) = (k : Int) + 1 from w64in (by have := HB.out; omega))
      clear hcl hxx
      go_wp2_with fail
      refine gen_code (fun V => EnB4 V wr.heap.size x ∧ Ext wr V) ⟨EnB4.new wr x, by (repeat (first | exact Ext.refl _ | apply Ext.drew_left | apply Ext.drew | apply Ext.alloc))⟩ ?_
      rintro V ⟨hb, hxV⟩
      obtain ⟨xb, hxb⟩ : ∃ xb, wr.heap.size = xb := ⟨_, rfl⟩
      rw [hxb] at hb
      simp only [hxb]
      have HBX := hid_mk hb
      have HXV := hid_mk (Ext.trans _ _ _ HX.out hxV)
      clear hb hxV hxb a0 a1 a2 a3 a4 hbl
      generalize (Value.agg #[.string x.key, .int .i64 x.ctr, .int .i64 x.node, .string x.val, .bool x.dead]) = xv
      go_loopw [73] (fun j wi => ∃ q : Nat, q ≤ k ∧ j = .int .i64 (q : Int) ∧ (∀ j', (h : j' < q) → (hj : j' < L.length) → tw x L[j'] = false) ∧ Ext V wi) (fun j _ => k - (intOf j).toNat)
      case atStart => exact ⟨0, Nat.zero_le _, rfl, fun j' h => by omega, Ext.refl _⟩
      case round =>
        obtain ⟨q, hq, rfl, hqt, hxi⟩ := hrel
        have HQT := hid_mk hqt
        have HXI := hid_mk hxi
        clear hqt hxi
        by_cases hqk : q < k
        · obtain ⟨y0, y1, y2, y3, y4⟩ := (((HLC2.out q (by omega)).ext HT.out.x).ext HXV.out).ext HXI.out
          have hyl := cell_lt y0
          obtain ⟨y, hyy⟩ : ∃ y, L[q]'(by omega) = y := ⟨_, rfl⟩
          have HYY := hid_mk hyy
          rw [hyy] at y0 y1 y2 y3 y4
          have HBI := hid_mk (HBX.out.ext HXI.out)
          have a0 := HBI.out.c0
          have a1 := HBI.out.c1
          have a2 := HBI.out.c2
          have a3 := HBI.out.c3
          have a4 := HBI.out.c4
          have f0 := HBI.out.f 0
          have f1 := HBI.out.f 1
          have f2 := HBI.out.f 2
          have f3 := HBI.out.f 3
          have f4 := HBI.out.f 4
          have al := HBI.out.lt
          have hq1 : (q : Int) < (k : Int) := by omega
          have hq0 : (0 : Int) ≤ (q : Int) := by omega
          have HWQ := hid_mk (show wrap64 ((q : Int) + 1) = (q : Int) + 1 from w64in (by have := HB.out; omega))
          clear hyy
          have HQS := hid_mk (fun (h : tw x y = false) => (show ∀ j', (h' : j' < q + 1) → (hj : j' < L.length) → tw x L[j'] = false from fun j' h' hj => by
            by_cases e : j' = q
            · subst e
              rw [HYY.out]
              exact h
            · exact HQT.out j' (by omega) hj))
          go_wp2
          all_goals first
            | (go_ret; exact ⟨rfl, Ext.trans _ _ _ HT.out.x (Ext.trans _ _ _ HXV.out (Ext.trans _ _ _ HXI.out (by (repeat (first | exact Ext.refl _ | apply Ext.drew_left | apply Ext.drew | apply Ext.alloc)))))⟩)
            | (go_roundw
               case rel => exact ⟨q + 1, hqk, (by first | exact congrArg (Value.int .i64) HWQ.out | rfl), HQS.out (by
                 unfold tw
                 apply decide_eq_false
                 rintro ⟨h1, h2, h3, h4⟩
                 first
                   | exact h4 (ent_ext (by assumption) (by assumption) (by assumption) (by assumption) (by assumption))
                   | exact h4 (ent_ext (by rw [h1]) h2 h3 (by assumption) (by assumption))
                   | exact (show ¬ (x.ctr = y.ctr ∧ x.node = y.node) by assumption) ⟨h2, h3⟩
                   | exact absurd h2 (by assumption)
                   | exact absurd h3 (by assumption)
                   | exact absurd (congrArg ByteArray.toList h1) (by assumption)), Ext.trans _ _ _ HXI.out (by (repeat (first | exact Ext.refl _ | apply Ext.drew_left | apply Ext.drew | apply Ext.alloc)))⟩
               case measure => (try simp only [HWQ.out]); simp [intOf]; omega)
        · obtain rfl : q = k := by omega
          have hqq : ¬ ((q : Nat) : Int) < (q : Int) := by omega
          have HNEXT := hid_mk (show NoTv L (q + 1) from fun i j hi hji hl hj => by
            by_cases e : i = q
            · subst e
              rw [HXX.out]
              exact HQT.out j hji hj
            · exact HNT.out i j (by omega) hji hl hj)
          go_wp2
          go_roundw
          case rel => exact ⟨q + 1, hlt, (by first | exact congrArg (Value.int .i64) HW.out | rfl), HNEXT.out, Ext.trans _ _ _ HXV.out HXI.out⟩
          case measure => (try simp only [HW.out]); simp [intOf]; omega
    · obtain rfl : k = L.length := by omega
      have HNN := hid_mk (noTw_all HNT.out)
      have HTW := hid_mk (HT.out.ext HX.out)
      have hmm : ¬ ((L.length : Nat) : Int) < (L.length : Int) := by omega
      clear HT HNT HX
      go_wp2_with fail
      obtain ⟨wC, rfl⟩ : ∃ wC, wC = wr := ⟨wr, rfl⟩
      obtain ⟨n, hn⟩ : ∃ n, L.length = n := ⟨_, rfl⟩
      have HN := hid_mk hn
      have HN5 := hid_mk (show n ≤ 512 by have := HB.out; omega)
      simp only [hn]
      clear hmm hk hn
      go_loopw [13, 98] (fun v i wr => ∃ m : Nat, m ≤ n ∧ i = .int .i64 (m : Int) ∧ OwG 3 1 cI wr wC.heap.size v (rngI m) ∧ Ext wC wr) (fun _ i _ => n - (intOf i).toNat)
      case atStart => exact ⟨0, Nat.zero_le _, rfl, ownG_nil _ _, Ext.refl _⟩
      case round =>
        obtain ⟨m, hm, rfl, ho, hx⟩ := hrel
        have HO := hid_mk ho
        have HX := hid_mk hx
        clear ho hx
        by_cases hlt : m < n
        · have hm1 : (m : Int) < (n : Int) := by omega
          have hm0 : (0 : Int) ≤ (m : Int) := by omega
          have HW := hid_mk (show wrap64 ((m : Int) + 1) = (m : Int) + 1 from w64in (by have := HN5.out; omega))
          have hx1 : Ext wr (wr.alloc (.cells #[.int .i64 (m : Int)] 3)) := by (repeat (first | exact Ext.refl _ | apply Ext.drew_left | apply Ext.drew | apply Ext.alloc))
          obtain ⟨v', w', hrun, ho, hg, hob⟩ := appendG okI (w := wr.alloc (.cells #[.int .i64 (m : Int)] 3)) (lv := .slice (some ⟨wr.heap.size, 0, none⟩) 1 1) (L := [(m : Int)]) (HO.out.ext hx1) (OwG.sl (B := wr.heap.size) (t := 3) Nat.one_pos (fun _ => rfl) (ownG_new rfl (heap_alloc_new wr _) (Nat.le_refl _))) (by rw [rngI_len]; have := HN5.out; simp; omega) (by have := HX.out.below.size; simp; omega)
          have HBB := hid_mk (show Ext wC w' ∧ OwG 3 1 cI w' wC.heap.size v' (rngI (m + 1)) by rw [rngI_succ]; exact ⟨ext_grown (Ext.trans _ _ _ HX.out hx1) hg (HO.out.ext hx1) (Nat.le_refl _), ho⟩)
          clear ho hg hob hx1
          go_wp2
          go_roundw
          case rel => exact ⟨m + 1, hlt, (by first | exact congrArg (Value.int .i64) HW.out | rfl), HBB.out.2, HBB.out.1⟩
          case measure => (try simp only [HW.out]); simp [intOf]; omega
        · obtain rfl : m = n := by omega
          have hmm : ¬ ((m : Nat) : Int) < (m : Int) := by omega
          obtain ⟨pa, cm, rfl⟩ := own_form HO.out
          obtain ⟨wD, rfl⟩ : ∃ wD, wD = wr := ⟨wr, rfl⟩
          have hod := HO.out
          rw [rngI_len] at hod
          simp only [rngI_len]
          have HOD := hid_mk hod
          clear hod
          have HTD := hid_mk (HTW.out.ext HX.out)
          have HXD := hid_mk HX.out
          clear HO HX hm hlt
          go_wp2_with fail
          have hrl : (rngI m).length = m := rngI_len m
          have HRL := hid_mk hrl
          clear hrl
          go_loopw [108] (fun x wi => ∃ k : Nat, k ≤ m ∧ x = .int .i64 (k : Int) ∧ ∃ M : List Int, M.Perm (rngI m) ∧ OwG 3 1 cI wi wC.heap.size (.slice pa m cm) M ∧ Ext wC wi) (fun x _ => m - (intOf x).toNat)
          case atStart => exact ⟨0, Nat.zero_le _, rfl, rngI m, List.Perm.refl _, HOD.out, HXD.out⟩
          case round =>
            obtain ⟨k, hk, rfl, M, hpm, ho, hx⟩ := hrel
            have hlm : M.length = m := by rw [hpm.length_eq]; exact HRL.out
            have HPM := hid_mk hpm
            have HO := hid_mk ho
            have HX := hid_mk hx
            have HLM := hid_mk hlm
            clear hpm ho hx hlm
            by_cases hlt : k < m
            · have hk1 : (k : Int) < (m : Int) := by omega
              have hk0 : (0 : Int) ≤ (k : Int) := by omega
              have HW := hid_mk (show wrap64 ((k : Int) + 1) = (k : Int) + 1 from w64in (by have := HN5.out; omega))
              obtain ⟨pq, pc, rfl, hpc, hpcells⟩ := HP.out
              have HPC := hid_mk hpcells
              clear hpcells
              by_cases hkp : k < P.length
              · obtain ⟨pb, po, rfl, hpi⟩ := HPC.out (by omega)
                have hp0 : w0.cell? ⟨pb, po + k, none⟩ = some (.int .i64 P[k]) := by
                  have h := hpi k hkp 0 (by omega)
                  simpa [cI] using h
                have hp1 := cell_ext HX.out (cell_ext HTW.out.x hp0)
                have hpl := cell_lt hp1
                have hkp1 : (k : Int) < (P.length : Int) := by omega
                have hrng := HPR.out P[k] (List.getElem_mem hkp)
                obtain ⟨pk, hpk⟩ : ∃ pk, P[k] = pk := ⟨_, rfl⟩
                rw [hpk] at hp1 hrng
                have HRG := hid_mk hrng
                obtain ⟨kn, hkn, hkl⟩ : ∃ kn : Nat, am8 pk (m : Int) = (kn : Int) ∧ kn < m := by
                  have h1 := Int.emod_nonneg pk (show (m : Int) ≠ 0 by omega)
                  have h2 := Int.emod_lt_of_pos pk (show (0 : Int) < (m : Int) by omega)
                  refine ⟨(pk % (m : Int)).toNat, ?_, by omega⟩
                  unfold am8
                  rw [if_neg (by omega)]
                  omega
                have HKN := hid_mk hkn
                clear hpi hp0 hpk hrng hkn
                go_wp2_with fail
                refine (among8_any pk (m : Int) HRG.out (by have := HN5.out; omega) _).mono ?_
                rintro e w5 ⟨rfl, rfl⟩
                rw [HKN.out]
                obtain ⟨gg, cc, hv, -, hgB, hgl, -⟩ := OwG.at (k := 1) (l := M) Nat.one_pos (fun _ => rfl) HO.out (by have := HLM.out; omega)
                have hpa : pa = some ⟨gg, 0, none⟩ := by injection hv
                subst hpa
                have HGB := hid_mk hgB
                have hlk : k < M.length := by have := HLM.out; omega
                have hlkn : kn < M.length := by have := HLM.out; omega
                have HSW := hid_mk (swapI hlk hlkn)
                have d0 := HO.out.cell1 (fun _ => rfl) rfl (List.getElem?_eq_getElem hlk) rfl
                have d1 := HO.out.cell1 (fun _ => rfl) rfl (List.getElem?_eq_getElem hlkn) rfl
                have HO2 := hid_mk (fun (dm dk : Int) => (OwG.set1' (x := dm) (fun _ => rfl) (OwG.set1' (x := dk) (fun _ => rfl) HO.out HLM.out hlk rfl) (by rw [List.length_set]; exact HLM.out) (by rw [List.length_set]; exact hlkn) rfl).ext ((Ext.refl _).drew))
                obtain ⟨dm, hdm⟩ : ∃ dm, M[k] = dm := ⟨_, rfl⟩
                obtain ⟨dk, hdk⟩ : ∃ dk, M[kn] = dk := ⟨_, rfl⟩
                rw [hdm] at d0 HSW
                rw [hdk] at d1 HSW
                have HDD := hid_mk (show kn = k → dm = dk by intro e; subst e; rw [← hdm, ← hdk])
                have fz : ∀ o, wr.frozen? ⟨gg, o, none⟩ = false := fun o => HO.out.fz
                have fz0 := fz k
                have fz1 := fz kn
                have hkn1 : (kn : Int) < (m : Int) := by omega
                have hkn0 : (0 : Int) ≤ (kn : Int) := by omega
                clear hv hgB hdm hdk fz hlk hlkn
                by_cases hkk : kn = k
                · have hdd := HDD.out hkk
                  subst hdd
                  subst hkk
                  go_wp2_with fail
                  refine wp_region_held_planC Ext (fun i => i != 13 && i != 15) (fun i => [0, 1, 2, 3, 4, 5, 6, 8, 9, 10, 12, 14].contains i) (.quiet 0 (.quiet 1 (.quiet 2 (.quiet 3 (.quiet 4 (.quiet 5 (.quiet 6 (.quiet 8 (.quiet 9 (.quiet 10 (.alt 7 (.alt 11 (.quiet 12 (.alt 13 (.quiet 14 (.alt 15 .done .stop)) .stop)) .stop) (.alt 11 (.alt 7 (.quiet 12 (.alt 13 (.quiet 14 (.alt 15 .done .stop)) .stop)) .stop) .stop)))))))))))) (by kernel_rfl) (by kernel_rfl) Ext.refl Ext.trans (by intro c a w d v h; cases d <;> exact h) (fun ops HO => ?_)
                  refine planC_calm _ (hi_of HO rfl) rfl (fun w' => by go_simp; rfl) ?_
                  simp only [Act.put, List.setIfInBounds_toArray, List.set_cons_succ, List.set_cons_zero]
                  refine planC_calm _ (hi_of HO rfl) rfl (fun w' => by go_simp; rfl) ?_
                  simp only [Act.put, List.setIfInBounds_toArray, List.set_cons_succ, List.set_cons_zero]
                  refine planC_calm _ (hi_of HO rfl) rfl (fun w' => by go_simp; rfl) ?_
                  simp only [Act.put, List.setIfInBounds_toArray, List.set_cons_succ, List.set_cons_zero]
                  refine planC_calm _ (hi_of HO rfl) rfl (fun w' => by go_simp; rfl) ?_
                  simp only [Act.put, List.setIfInBounds_toArray, List.set_cons_succ, List.set_cons_zero]
                  refine planC_calm _ (hi_of HO rfl) rfl (fun w' => by go_simp; rfl) ?_
                  simp only [Act.put, List.setIfInBounds_toArray, List.set_cons_succ, List.set_cons_zero]
                  refine planC_calm _ (hi_of HO rfl) rfl (fun w' => by go_simp; rfl) ?_
                  simp only [Act.put, List.setIfInBounds_toArray, List.set_cons_succ, List.set_cons_zero]
                  refine planC_calm _ (hi_of HO rfl) rfl (fun w' => by go_simp; rfl) ?_
                  simp only [Act.put, List.setIfInBounds_toArray, List.set_cons_succ, List.set_cons_zero]
                  refine planC_calm _ (hi_of HO rfl) rfl (fun w' => by go_simp; rfl) ?_
                  simp only [Act.put, List.setIfInBounds_toArray, List.set_cons_succ, List.set_cons_zero]
                  refine planC_calm _ (hi_of HO rfl) rfl (fun w' => by go_simp; rfl) ?_
                  simp only [Act.put, List.setIfInBounds_toArray, List.set_cons_succ, List.set_cons_zero]
                  refine planC_calm _ (hi_of HO rfl) rfl (fun w' => by go_simp; rfl) ?_
                  simp only [Act.put, List.setIfInBounds_toArray, List.set_cons_succ, List.set_cons_zero]
                  refine planC_fork ?lA101 ?lB101
                  case' lA101 =>
                    refine planC_loud1 (hi_of HO rfl) rfl ?_
                    go_simp
                    refine ⟨by (repeat (first | exact Ext.refl _ | apply Ext.drew_left | apply Ext.drew | apply Ext.alloc)), ?_⟩
                    refine planC_loud1 (hi_of HO rfl) rfl ?_
                    go_simp
                    refine ⟨by (repeat (first | exact Ext.refl _ | apply Ext.drew_left | apply Ext.drew | apply Ext.alloc)), ?_⟩
                    refine planC_calm _ (hi_of HO rfl) rfl (fun w' => by go_simp; rfl) ?_
                    simp only [Act.put, List.setIfInBounds_toArray, List.set_cons_succ, List.set_cons_zero]
                    refine planC_loud1 (hi_of HO rfl) rfl ?_
                    go_simp
                    skip
                    refine planC_calm _ (hi_of HO rfl) rfl (fun w' => by go_simp; rfl) ?_
                    simp only [Act.put, List.setIfInBounds_toArray, List.set_cons_succ, List.set_cons_zero]
                    refine planC_loud1 (hi_of HO rfl) rfl ?_
                    go_simp
                    skip
                    refine planC_done ?fin102
                  case' lB101 =>
                    refine planC_loud1 (hi_of HO rfl) rfl ?_
                    go_simp
                    refine ⟨by (repeat (first | exact Ext.refl _ | apply Ext.drew_left | apply Ext.drew | apply Ext.alloc)), ?_⟩
                    refine planC_loud1 (hi_of HO rfl) rfl ?_
                    go_simp
                    refine ⟨by (repeat (first | exact Ext.refl _ | apply Ext.drew_left | apply Ext.drew | apply Ext.alloc)), ?_⟩
                    refine planC_calm _ (hi_of HO rfl) rfl (fun w' => by go_simp; rfl) ?_
                    simp only [Act.put, List.setIfInBounds_toArray, List.set_cons_succ, List.set_cons_zero]
                    refine planC_loud1 (hi_of HO rfl) rfl ?_
                    go_simp
                    skip
                    refine planC_calm _ (hi_of HO rfl) rfl (fun w' => by go_simp; rfl) ?_
                    simp only [Act.put, List.setIfInBounds_toArray, List.set_cons_succ, List.set_cons_zero]
                    refine planC_loud1 (hi_of HO rfl) rfl ?_
                    go_simp
                    skip
                    refine planC_done ?fin103
                  all_goals
                    go_wp2
                    go_roundw
                    case rel => exact ⟨kn + 1, hlt, (by first | exact congrArg (Value.int .i64) HW.out | rfl), (M.set kn dm).set kn dm, HSW.out.trans HPM.out, (by have h := HO2.out dm dm; exact h), Xl.ext HX.out (L := [gg]) (by (repeat (first | with_reducible exact Xl.refl _ | with_reducible apply Xl.alloc | with_reducible apply Xl.drew | with_reducible apply Xl.set | (focus (simp; done))))) (by have := HGB.out; simp; omega)⟩
                    case measure => (try simp only [HW.out]); simp [intOf]; omega
                · have hkk' : ¬ k = kn := fun e => hkk e.symm
                  go_wp2_with fail
                  refine wp_region_held_planC Ext (fun i => i != 13 && i != 15) (fun i => [0, 1, 2, 3, 4, 5, 6, 8, 9, 10, 12, 14].contains i) (.quiet 0 (.quiet 1 (.quiet 2 (.quiet 3 (.quiet 4 (.quiet 5 (.quiet 6 (.quiet 8 (.quiet 9 (.quiet 10 (.alt 7 (.alt 11 (.quiet 12 (.alt 13 (.quiet 14 (.alt 15 .done .stop)) .stop)) .stop) (.alt 11 (.alt 7 (.quiet 12 (.alt 13 (.quiet 14 (.alt 15 .done .stop)) .stop)) .stop) .stop)))))))))))) (by kernel_rfl) (by kernel_rfl) Ext.refl Ext.trans (by intro c a w d v h; cases d <;> exact h) (fun ops HO => ?_)
                  refine planC_calm _ (hi_of HO rfl) rfl (fun w' => by go_simp; rfl) ?_
                  simp only [Act.put, List.setIfInBounds_toArray, List.set_cons_succ, List.set_cons_zero]
                  refine planC_calm _ (hi_of HO rfl) rfl (fun w' => by go_simp; rfl) ?_
                  simp only [Act.put, List.setIfInBounds_toArray, List.set_cons_succ, List.set_cons_zero]
                  refine planC_calm _ (hi_of HO rfl) rfl (fun w' => by go_simp; rfl) ?_
                  simp only [Act.put, List.setIfInBounds_toArray, List.set_cons_succ, List.set_cons_zero]
                  refine planC_calm _ (hi_of HO rfl) rfl (fun w' => by go_simp; rfl) ?_
                  simp only [Act.put, List.setIfInBounds_toArray, List.set_cons_succ, List.set_cons_zero]
                  refine planC_calm _ (hi_of HO rfl) rfl (fun w' => by go_simp; rfl) ?_
                  simp only [Act.put, List.setIfInBounds_toArray, List.set_cons_succ, List.set_cons_zero]
                  refine planC_calm _ (hi_of HO rfl) rfl (fun w' => by go_simp; rfl) ?_
                  simp only [Act.put, List.setIfInBounds_toArray, List.set_cons_succ, List.set_cons_zero]
                  refine planC_calm _ (hi_of HO rfl) rfl (fun w' => by go_simp; rfl) ?_
                  simp only [Act.put, List.setIfInBounds_toArray, List.set_cons_succ, List.set_cons_zero]
                  refine planC_calm _ (hi_of HO rfl) rfl (fun w' => by go_simp; rfl) ?_
                  simp only [Act.put, List.setIfInBounds_toArray, List.set_cons_succ, List.set_cons_zero]
                  refine planC_calm _ (hi_of HO rfl) rfl (fun w' => by go_simp; rfl) ?_
                  simp only [Act.put, List.setIfInBounds_toArray, List.set_cons_succ, List.set_cons_zero]
                  refine planC_calm _ (hi_of HO rfl) rfl (fun w' => by go_simp; rfl) ?_
                  simp only [Act.put, List.setIfInBounds_toArray, List.set_cons_succ, List.set_cons_zero]
                  refine planC_fork ?lA104 ?lB104
                  case' lA104 =>
                    refine planC_loud1 (hi_of HO rfl) rfl ?_
                    go_simp
                    refine ⟨by (repeat (first | exact Ext.refl _ | apply Ext.drew_left | apply Ext.drew | apply Ext.alloc)), ?_⟩
                    refine planC_loud1 (hi_of HO rfl) rfl ?_
                    go_simp
                    refine ⟨by (repeat (first | exact Ext.refl _ | apply Ext.drew_left | apply Ext.drew | apply Ext.alloc)), ?_⟩
                    refine planC_calm _ (hi_of HO rfl) rfl (fun w' => by go_simp; rfl) ?_
                    simp only [Act.put, List.setIfInBounds_toArray, List.set_cons_succ, List.set_cons_zero]
                    refine planC_loud1 (hi_of HO rfl) rfl ?_
                    go_simp
                    skip
                    refine planC_calm _ (hi_of HO rfl) rfl (fun w' => by go_simp; rfl) ?_
                    simp only [Act.put, List.setIfInBounds_toArray, List.set_cons_succ, List.set_cons_zero]
                    refine planC_loud1 (hi_of HO rfl) rfl ?_
                    go_simp
                    skip
                    refine planC_done ?fin105
                  case' lB104 =>
                    refine planC_loud1 (hi_of HO rfl) rfl ?_
                    go_simp
                    refine ⟨by (repeat (first | exact Ext.refl _ | apply Ext.drew_left | apply Ext.drew | apply Ext.alloc)), ?_⟩
                    refine planC_loud1 (hi_of HO rfl) rfl ?_
                    go_simp
                    refine ⟨by (repeat (first | exact Ext.refl _ | apply Ext.drew_left | apply Ext.drew | apply Ext.alloc)), ?_⟩
                    refine planC_calm _ (hi_of HO rfl) rfl (fun w' => by go_simp; rfl) ?_
                    simp only [Act.put, List.setIfInBounds_toArray, List.set_cons_succ, List.set_cons_zero]
                    refine planC_loud1 (hi_of HO rfl) rfl ?_
                    go_simp
                    skip
                    refine planC_calm _ (hi_of HO rfl) rfl (fun w' => by go_simp; rfl) ?_
                    simp only [Act.put, List.setIfInBounds_toArray, List.set_cons_succ, List.set_cons_zero]
                    refine planC_loud1 (hi_of HO rfl) rfl ?_
                    go_simp
                    skip
                    refine planC_done ?fin106
                  all_goals
                    go_wp2
                    go_roundw
                    case rel => exact ⟨k + 1, hlt, (by first | exact congrArg (Value.int .i64) HW.out | rfl), (M.set k dk).set kn dm, HSW.out.trans HPM.out, (by have h := HO2.out dm dk; exact h), Xl.ext HX.out (L := [gg]) (by (repeat (first | with_reducible exact Xl.refl _ | with_reducible apply Xl.alloc | with_reducible apply Xl.drew | with_reducible apply Xl.set | (focus (simp; done))))) (by have := HGB.out; simp; omega)⟩
                    case measure => (try simp only [HW.out]); simp [intOf]; omega
              · have hkp1 : ¬ (k : Int) < (P.length : Int) := by omega
                go_wp2
                go_roundw
                case rel => exact ⟨k + 1, hlt, (by first | exact congrArg (Value.int .i64) HW.out | rfl), M, HPM.out, HO.out, HX.out⟩
                case measure => (try simp only [HW.out]); simp [intOf]; omega
            · obtain rfl : k = m := by omega
              have hmm2 : ¬ ((k : Nat) : Int) < (k : Int) := by omega
              obtain ⟨wE, rfl⟩ : ∃ wE, wE = wr := ⟨wr, rfl⟩
              have HTE := hid_mk (HTW.out.ext HX.out)
              have HYL := hid_mk (show (byOrd L M).length = k by simp [byOrd]; exact HLM.out)
              have hst : (sa < wC.heap.size ∧ ma < wC.heap.size ∧ ta < wC.heap.size) ∧ sb < wC.heap.size ∧ mb < wC.heap.size ∧ tb < wC.heap.size := by
                obtain ⟨n1, h1⟩ := HTW.out.a
                obtain ⟨n2, h2⟩ := HTW.out.b
                exact ⟨⟨h1.lt, h1.mlt, h1.tlt⟩, h2.lt, h2.mlt, h2.tlt⟩
              have HST := hid_mk hst
              have HOE := hid_mk HO.out
              have HPE := hid_mk (show M.Perm (rngI L.length) by rw [HN.out]; exact HPM.out)
              clear hst HO HX HPM hk hlt
              go_wp2_with fail
              go_loopw [139] (fun x wi => ∃ m : Nat, m ≤ k ∧ x = .int .i64 (m : Int) ∧ ∃ s t : St, Two w0 wi sa ma ta sb mb tb s t ∧ Taken s (L.take m) ∧ Taken t ((byOrd L M).take m) ∧ OwG 3 1 cI wi wC.heap.size (.slice pa k cm) M) (fun x _ => k - (intOf x).toNat)
              case atStart => exact ⟨0, Nat.zero_le _, rfl, stNil 0, stNil 5, HTE.out, taken_nil (by omega), taken_nil (by omega), HOE.out⟩
              case round =>
                obtain ⟨m, hm, rfl, s, t, h2, hs, ht, ho⟩ := hrel
                have H2 := hid_mk h2
                have HS := hid_mk hs
                have HTT := hid_mk ht
                have HO := hid_mk ho
                clear h2 hs ht ho
                by_cases hlt : m < k
                · have hm1 : (m : Int) < (k : Int) := by omega
                  have hm0 : (0 : Int) ≤ (m : Int) := by omega
                  have HW := hid_mk (show wrap64 ((m : Int) + 1) = (m : Int) + 1 from w64in (by have := HN5.out; omega))
                  have hmL : m < L.length := by rw [HN.out]; exact hlt
                  have hmM : m < M.length := by rw [HLM.out]; exact hlt
                  obtain ⟨b, o, rfl, hcl⟩ := HCC.out (by omega)
                  have HCL := hid_mk hcl
                  obtain ⟨a0, a1, a2, a3, a4⟩ := (hcl m hmL).ext H2.out.x
                  have hbl := cell_lt a0
                  obtain ⟨jn, hj, hMj, hBj⟩ := byOrd_at HPE.out hmM
                  obtain ⟨x, hxx⟩ : ∃ x, L[m] = x := ⟨_, rfl⟩
                  obtain ⟨y, hyy⟩ : ∃ y, L[jn] = y := ⟨_, rfl⟩
                  have HY := hid_mk hyy
                  have HJN := hid_mk hj
                  have HMJ := hid_mk hMj
                  have HTX := hid_mk (show L.take (m + 1) = L.take m ++ [x] by rw [take_snoc' hmL, hxx])
                  have HTY := hid_mk (show (byOrd L M).take (m + 1) = (byOrd L M).take m ++ [y] by rw [take_snoc' (by rw [HYL.out]; exact hlt), hBj, hyy])
                  rw [hxx] at a0 a1 a2 a3 a4
                  have HMM := hid_mk hmM
                  clear hcl hxx hyy hMj hBj
                  go_wp2_with fail
                  obtain ⟨na', hna⟩ := H2.out.a
                  refine (stTake_any x hna (HL.out.ext H2.out.x)).mono ?_
                  rintro r w5 ⟨rfl, hp⟩
                  have H5 := hid_mk (H2.out.postA hp)
                  have HO5 := hid_mk (OwG.xl hp.1 (fun g hg => by have := own_rowG HO.out g hg; have := HST.out; simp; omega) HO.out)
                  clear hp hna a0 a1 a2 a3 a4 hbl
                  generalize hba : tkB s x = ba
                  generalize hea : tkE s x = ea
                  have HEA := hid_mk hea
                  clear hba hea
                  obtain ⟨gg, cc, hv, -, hgB, hgl, -⟩ := OwG.at (k := 1) (l := M) Nat.one_pos (fun _ => rfl) HO5.out (by have := HLM.out; omega)
                  have hpa : pa = some ⟨gg, 0, none⟩ := by injection hv
                  subst hpa
                  have d0 := HO5.out.cell1 (fun _ => rfl) rfl (List.getElem?_eq_getElem HMM.out) rfl
                  rw [HMJ.out] at d0
                  obtain ⟨b0, b1, b2, b3, b4⟩ := (HCL.out jn hj).ext H5.out.x
                  rw [HY.out] at b0 b1 b2 b3 b4
                  have hbl := cell_lt b0
                  have hjn1 : (jn : Int) < (k : Int) := by have := HN.out; omega
                  have hjn0 : (0 : Int) ≤ (jn : Int) := by omega
                  clear hv hgB
                  go_wp2_with fail
                  obtain ⟨nb', hnb⟩ := H5.out.b
                  refine (stTake_any y hnb (HL.out.ext H5.out.x)).mono ?_
                  rintro r w6 ⟨rfl, hp⟩
                  have H6 := hid_mk (H5.out.postB hp)
                  have HO6 := hid_mk (OwG.xl hp.1 (fun g hg => by have := own_rowG HO5.out g hg; have := HST.out; simp; omega) HO5.out)
                  clear hp hnb b0 b1 b2 b3 b4 hbl d0 hgl
                  generalize hbb : tkB t y = bb
                  generalize heb : tkE t y = eb
                  have HEB := hid_mk heb
                  clear hbb heb
                  by_cases e8 : ea = 80
                  · go_wp2
                    go_ret
                    exact ⟨rfl, H6.out.x⟩
                  by_cases e9 : eb = 80
                  · go_wp2
                    go_ret
                    exact ⟨rfl, H6.out.x⟩
                  have HSN := hid_mk (show Taken (tkS s x) (L.take (m + 1)) by rw [HTX.out]; exact taken_snoc HS.out x (.inl (by rw [HEA.out]; exact e8)))
                  have HTN := hid_mk (show Taken (tkS t y) ((byOrd L M).take (m + 1)) by rw [HTY.out]; exact taken_snoc HTT.out y (.inl (by rw [HEB.out]; exact e9)))
                  go_wp2
                  all_goals first
                    | (go_ret; exact ⟨rfl, H6.out.x⟩)
                    | (go_roundw
                       case rel => exact ⟨m + 1, hlt, (by first | exact congrArg (Value.int .i64) HW.out | rfl), tkS s x, tkS t y, H6.out, HSN.out, HTN.out, HO6.out⟩
                       case measure => (try simp only [HW.out]); simp [intOf]; omega)
                · obtain rfl : m = k := by omega
                  have hmm3 : ¬ ((m : Nat) : Int) < (m : Int) := by omega
                  have HSF := hid_mk (show Taken s L by have h := HS.out; rwa [List.take_of_length_le (by rw [HN.out]; omega)] at h)
                  have HTF := hid_mk (show Taken t (byOrd L M) by have h := HTT.out; rwa [List.take_of_length_le (by rw [HYL.out]; omega)] at h)
                  obtain ⟨wF, rfl⟩ : ∃ wF, wF = wr := ⟨wr, rfl⟩
                  have HEQ := hid_mk (taken_eq HSF.out HTF.out (byOrd_mem HPE.out) HNN.out)
                  clear HO HS HTT hm hlt HOE
                  go_wp2_with fail
                  go_loopw [172] (fun x wi => ∃ q : Nat, q ≤ m ∧ x = .int .i64 (q : Int) ∧ Two w0 wi sa ma ta sb mb tb s t) (fun x _ => m - (intOf x).toNat)
                  case atStart => exact ⟨0, Nat.zero_le _, rfl, H2.out⟩
                  case round =>
                    clear H2
                    obtain ⟨q, hq, rfl, h2⟩ := hrel
                    have H2 := hid_mk h2
                    clear h2
                    by_cases hlt : q < m
                    · have hm1 : (q : Int) < (m : Int) := by omega
                      have hm0 : (0 : Int) ≤ (q : Int) := by omega
                      have HW := hid_mk (show wrap64 ((q : Int) + 1) = (q : Int) + 1 from w64in (by have := HN5.out; omega))
                      have hqL : q < L.length := by rw [HN.out]; exact hlt
                      obtain ⟨b, o, rfl, hcl⟩ := HCC.out (by omega)
                      obtain ⟨a0, a1, a2, a3, a4⟩ := (hcl q hqL).ext H2.out.x
                      have hbl := cell_lt a0
                      obtain ⟨x, hxx⟩ : ∃ x, L[q] = x := ⟨_, rfl⟩
                      rw [hxx] at a0 a1 a2 a3 a4
                      have HTA := hid_mk (taken_again HSF.out (show x ∈ L by rw [← hxx]; exact List.getElem_mem hqL))
                      clear hcl hxx
                      go_wp2_with fail
                      refine gen_callsT (fun V => Ext wr V) (by (repeat (first | exact Ext.refl _ | apply Ext.drew_left | apply Ext.drew | apply Ext.alloc))) ?_
                      intro V hxV
                      have H3 := hid_mk (H2.out.ext hxV)
                      obtain ⟨na', hna⟩ := H3.out.a
                      refine (stTake_any x hna (HL.out.ext H3.out.x)).mono ?_
                      rintro r w5 ⟨rfl, hp⟩
                      have H5 := hid_mk (H3.out.postA hp)
                      rw [HTA.out.2] at H5
                      rw [HTA.out.1]
                      clear hp hna a0 a1 a2 a3 a4 hbl hxV
                      go_wp2
                      go_roundw
                      case rel => exact ⟨q + 1, hlt, (by first | exact congrArg (Value.int .i64) HW.out | rfl), H5.out⟩
                      case measure => (try simp only [HW.out]); simp [intOf]; omega
                    · obtain rfl : q = m := by omega
                      have hmm4 : ¬ ((q : Nat) : Int) < (q : Int) := by omega
                      obtain ⟨wG, rfl⟩ : ∃ wG, wG = wr := ⟨wr, rfl⟩
                      clear hq hlt
                      go_wp2_with fail
                      obtain ⟨n1, h1⟩ := H2.out.a
                      refine (held_any h1).mono ?_
                      rintro r w7 ⟨vx, rfl, hvx, hx7⟩
                      have H7 := hid_mk (H2.out.ext hx7)
                      have HVX := hid_mk hvx
                      obtain ⟨ax, cx, rfl, -, -, -⟩ := hvx
                      clear h1 hx7
                      go_wp2_with fail
                      obtain ⟨n1, h1⟩ := H7.out.b
                      refine (held_any h1).mono ?_
                      rintro r w8 ⟨vy, rfl, hvy, hx8⟩
                      rw [← HEQ.out.1] at hvy
                      have H8 := hid_mk (H7.out.ext hx8)
                      replace HVX := hid_mk (HVX.out.ext hx8)
                      have HVY := hid_mk hvy
                      obtain ⟨ay, cy, rfl, -, -, -⟩ := hvy
                      clear h1 hx8
                      go_wp2_with fail
                      refine (sWhole_any w8).mono ?_
                      rintro e w9 ⟨rfl, hx9⟩
                      have H9 := hid_mk (H8.out.ext hx9)
                      replace HVX := hid_mk (HVX.out.ext hx9)
                      replace HVY := hid_mk (HVY.out.ext hx9)
                      clear hx9
                      go_wp2_with fail
                      obtain ⟨n1, h1⟩ := H9.out.a
                      refine (stFold_any ⟨#[]⟩ ⟨#[]⟩ true h1).mono ?_
                      rintro r w10 ⟨rfl, hp⟩
                      rw [rng_whole, fd_whole]
                      have H10 := hid_mk (H9.out.postA (fold_post hp))
                      replace HVX := hid_mk (entSl_meter HVX.out h1.m hp.1)
                      replace HVY := hid_mk (entSl_meter HVY.out h1.m hp.1)
                      obtain ⟨ls, hls⟩ : ∃ ls, s.l = ls := ⟨_, rfl⟩
                      have HLS := hid_mk hls
                      obtain ⟨tt, htt⟩ : ∃ tt, talL s.l = tt := ⟨_, rfl⟩
                      have HTT := hid_mk htt
                      have HT1 := hid_mk (show tt.1 = (s.l.length : Int) by rw [← htt]; rfl)
                      rw [htt]
                      clear h1 hp htt hls
                      go_wp2_with fail
                      obtain ⟨q30, hq30⟩ : ∃ q, w10.heap.size = q := ⟨_, rfl⟩
                      simp only [hq30]
                      refine gen_callsT (fun V => TlB4 V q30 tt ∧ Ext w10 V) ⟨⟨by rw [← hq30]; exact heap_alloc_new w10 _⟩, by (repeat (first | exact Ext.refl _ | apply Ext.drew_left | apply Ext.drew | apply Ext.alloc))⟩ ?_
                      rintro V ⟨hb30, hxV⟩
                      refine (sWhole_any V).mono ?_
                      rintro e w11 ⟨rfl, hx11⟩
                      have H11 := hid_mk ((H10.out.ext hxV).ext hx11)
                      replace HVX := hid_mk ((HVX.out.ext hxV).ext hx11)
                      replace HVY := hid_mk ((HVY.out.ext hxV).ext hx11)
                      have HB30 := hid_mk (hb30.ext hx11)
                      have HQ30 := hid_mk (show w10.heap.size ≤ q30 by omega)
                      clear hb30 hxV hx11 hq30
                      go_wp2_with fail
                      obtain ⟨n1, h1⟩ := H11.out.b
                      refine (stFold_any ⟨#[]⟩ ⟨#[]⟩ true h1).mono ?_
                      rintro r w12 ⟨rfl, hp⟩
                      rw [rng_whole, fd_whole, show talL t.l = tt by rw [← HEQ.out.1]; exact HTT.out]
                      have H12 := hid_mk (H11.out.postB (fold_post hp))
                      replace HVX := hid_mk (entSl_meter HVX.out h1.m hp.1)
                      replace HVY := hid_mk (entSl_meter HVY.out h1.m hp.1)
                      replace HB30 := hid_mk (HB30.out.xt hp.1.xt1 (by
                        intro e
                        cases e
                        have h2 := h1.m.b
                        rw [HB30.out.b] at h2
                        simp at h2))
                      clear h1 hp
                      have s0 := HB30.out.c0
                      have s1 := HB30.out.c1
                      have s2 := HB30.out.c2
                      have sl30 := HB30.out.lt
                      rw [HT1.out] at s0
                      have HTE2 := hid_mk HT1.out
                      obtain ⟨t1, t2, t3⟩ := tt
                      have ht1 : t1 = (s.l.length : Int) := HT1.out
                      subst ht1
                      dsimp only at s0 s1 s2 ⊢
                      go_wp2_with fail
                      refine gen_callsT (fun V => Ext w12 V) (by (repeat (first | exact Ext.refl _ | apply Ext.drew_left | apply Ext.drew | apply Ext.alloc))) ?_
                      intro V hxV
                      have H13 := hid_mk (H12.out.ext hxV)
                      replace HVX := hid_mk (HVX.out.ext hxV)
                      replace HVY := hid_mk (HVY.out.ext hxV)
                      clear hxV s0 s1 s2 sl30
                      obtain ⟨n1, h1⟩ := H13.out.a
                      refine (stClock_any h1).mono ?_
                      rintro r w13 ⟨rfl, rfl⟩
                      clear h1
                      go_wp2_with fail
                      obtain ⟨n1, h1⟩ := H13.out.b
                      refine (stClock_any h1).mono ?_
                      rintro r w13 ⟨rfl, rfl⟩
                      rw [← HEQ.out.2]
                      clear h1
                      go_wp2_with fail
                      obtain ⟨N, hN⟩ : ∃ N, s.l.length = N := ⟨_, rfl⟩
                      have HNN2 := hid_mk hN
                      simp only [hN]
                      clear hN
                      obtain ⟨wZ, rfl⟩ : ∃ wZ, wZ = V := ⟨V, rfl⟩
                      have HN256 := hid_mk (show N ≤ 256 by obtain ⟨n1, h1⟩ := H13.out.a; have := h1.len; have := HNN2.out; omega)
                      have HLL := hid_mk (show s.l.length = N from HNN2.out)
                      obtain ⟨ax2, cx2, hex, -, -, hcx⟩ := HVX.out
                      obtain ⟨ay2, cy2, hey, -, -, hcy⟩ := HVY.out
                      have e1 : ax2 = ax := by injection hex with h; exact h.symm
                      have e2 : ay2 = ay := by injection hey with h; exact h.symm
                      subst e1 e2
                      have HCX := hid_mk hcx
                      have HCY := hid_mk hcy
                      clear hex hey hcx hcy
                      go_loopw [240] (fun x wi => ∃ p : Nat, p ≤ N ∧ x = .int .i64 (p : Int) ∧ Ext wZ wi) (fun x _ => N - (intOf x).toNat)
                      case atStart => exact ⟨0, Nat.zero_le _, rfl, Ext.refl _⟩
                      case round =>
                        obtain ⟨p, hp, rfl, hx⟩ := hrel
                        have HX := hid_mk hx
                        clear hx
                        by_cases hlt : p < N
                        · have hm1 : (p : Int) < (N : Int) := by omega
                          have hm0 : (0 : Int) ≤ (p : Int) := by omega
                          have HW := hid_mk (show wrap64 ((p : Int) + 1) = (p : Int) + 1 from w64in (by have := HN256.out; omega))
                          have hps : p < s.l.length := by rw [HLL.out]; exact hlt
                          obtain ⟨bx, ox, rfl, hcx⟩ := HCX.out (by omega)
                          obtain ⟨by', oy, rfl, hcy⟩ := HCY.out (by omega)
                          obtain ⟨a0, a1, a2, a3, a4⟩ := (hcx p hps).ext HX.out
                          obtain ⟨b0, b1, b2, b3, b4⟩ := (hcy p hps).ext HX.out
                          obtain ⟨z, hz⟩ : ∃ z, s.l[p] = z := ⟨_, rfl⟩
                          rw [hz] at a0 a1 a2 a3 a4 b0 b1 b2 b3 b4
                          have hal := cell_lt a0
                          have hbl := cell_lt b0
                          clear hcx hcy hz
                          go_wp2_with fail
                          refine wp_region_held_below (fun _ => true) (.quiet 0 (.quiet 1 (.quiet 2 (.quiet 3 (.quiet 4 (.quiet 5 (.quiet 6 (.quiet 7 (.quiet 8 .done))))))))) (by kernel_rfl) (by kernel_rfl) (by intro c a w d v h; cases d <;> exact h) (fun ops HO => ?_)
                          refine plan_read _ (hi_of HO rfl) rfl (fun w' hE => by (repeat (with_reducible replace hE := Ext.unD hE)); have hcE := hE.hc; clear hE; go_simp; rfl) ?_
                          simp only [Act.put, List.setIfInBounds_toArray, List.set_cons_succ, List.set_cons_zero]
                          refine plan_read _ (hi_of HO rfl) rfl (fun w' hE => by (repeat (with_reducible replace hE := Ext.unD hE)); have hcE := hE.hc; clear hE; go_simp; rfl) ?_
                          simp only [Act.put, List.setIfInBounds_toArray, List.set_cons_succ, List.set_cons_zero]
                          refine plan_read _ (hi_of HO rfl) rfl (fun w' hE => by (repeat (with_reducible replace hE := Ext.unD hE)); have hcE := hE.hc; clear hE; go_simp; rfl) ?_
                          simp only [Act.put, List.setIfInBounds_toArray, List.set_cons_succ, List.set_cons_zero]
                          refine plan_read _ (hi_of HO rfl) rfl (fun w' hE => by (repeat (with_reducible replace hE := Ext.unD hE)); have hcE := hE.hc; clear hE; go_simp; rfl) ?_
                          simp only [Act.put, List.setIfInBounds_toArray, List.set_cons_succ, List.set_cons_zero]
                          refine plan_read _ (hi_of HO rfl) rfl (fun w' hE => by (repeat (with_reducible replace hE := Ext.unD hE)); have hcE := hE.hc; clear hE; go_simp; rfl) ?_
                          simp only [Act.put, List.setIfInBounds_toArray, List.set_cons_succ, List.set_cons_zero]
                          refine plan_read _ (hi_of HO rfl) rfl (fun w' hE => by (repeat (with_reducible replace hE := Ext.unD hE)); have hcE := hE.hc; clear hE; go_simp; rfl) ?_
                          simp only [Act.put, List.setIfInBounds_toArray, List.set_cons_succ, List.set_cons_zero]
                          refine plan_read _ (hi_of HO rfl) rfl (fun w' hE => by (repeat (with_reducible replace hE := Ext.unD hE)); have hcE := hE.hc; clear hE; go_simp; rfl) ?_
                          simp only [Act.put, List.setIfInBounds_toArray, List.set_cons_succ, List.set_cons_zero]
                          refine plan_read _ (hi_of HO rfl) rfl (fun w' hE => by (repeat (with_reducible replace hE := Ext.unD hE)); have hcE := hE.hc; clear hE; go_simp; rfl) ?_
                          simp only [Act.put, List.setIfInBounds_toArray, List.set_cons_succ, List.set_cons_zero]
                          refine plan_read _ (hi_of HO rfl) rfl (fun w' hE => by (repeat (with_reducible replace hE := Ext.unD hE)); have hcE := hE.hc; clear hE; go_simp; rfl) ?_
                          simp only [Act.put, List.setIfInBounds_toArray, List.set_cons_succ, List.set_cons_zero]
                          refine plan_done ?fin107
                          go_wp2
                          go_roundw
                          case rel => exact ⟨p + 1, hlt, (by first | exact congrArg (Value.int .i64) HW.out | rfl), Ext.drew HX.out⟩
                          case measure => (try simp only [HW.out]); simp [intOf]; omega
                        · obtain rfl : p = N := by omega
                          have hmm5 : ¬ ((p : Nat) : Int) < (p : Int) := by omega
                          go_wp2
                          go_ret
                          exact ⟨rfl, Ext.trans _ _ _ H13.out.x HX.out⟩
end Go.Proofs.YtokcgnbjkbhmiaaDoor
