/- Judging: the plain law of GhostTwins: where twins are found, the two maps count the same there, and are unlike. Judging: what is lent, and whether it is as it was, of lists as long as the law lets in. Judging: GhostTwins, walked. What the listed variable mix.lanes reads as, cell by cell. -/
import Derived.Test.YtiimoaplhhnklaaDoorMKT
import Derived.Test.YtiimoaplhhnklaaDoorHU
import Derived.Test.YtiimoaplhhnklaaDoorRows
import Derived.Test.YtiimoaplhhnklaaDoorMKO
import Derived.Test.YtiimoaplhhnklaaDoorHO
import Derived.MakeChecks
import Derived.Deep.Slices
namespace Go.Proofs.YtiimoaplhhnklaaDoor
open Go.RowKit
set_option maxHeartbeats 4000000
set_option maxRecDepth 100000
set_option linter.unusedSimpArgs false
set_option linter.unusedVariables false

theorem mChkP_of : ∀ (l : List Ent) (p : Option ByteArray), (∀ x ∈ l, eChk x = 0) → l.Pairwise (fun x y => Op.bytesLess x.key.toList y.key.toList = true) → (∀ k, p = some k → ∀ x ∈ l, Op.bytesLess k.toList x.key.toList = true) → mChkP p l = 0
  | [], _, _, _, _ => rfl
  | e :: r, p, h, hp, hk => by
    rw [List.pairwise_cons] at hp
    unfold mChkP
    rw [if_neg (fun c => c (h e List.mem_cons_self)), if_neg]
    · exact mChkP_of r _ (fun x hx => h x (List.mem_cons_of_mem _ hx)) hp.2 (fun k ek x hx => by cases ek; exact hp.1 x hx)
    · rintro ⟨k, rfl, h2⟩
      rw [hk k rfl e List.mem_cons_self] at h2
      cases h2
theorem mChk_in {l : List Ent} (h : mChk l = 0) (r : Rg) : mChk (inG r l) = 0 :=
  mChkP_of _ _ (fun x hx => mChkP_all _ _ h x (List.mem_filter.1 hx).1) ((mChk_rise h).sublist (List.filter_sublist)) (fun k ek => by cases ek)
theorem vEq_swap (p : Ent × Ent) : vEq (p.2, p.1) = vEq p := by
  unfold vEq
  rw [decide_eq_decide]
  exact ⟨fun h => ⟨h.1.symm, h.2.symm⟩, fun h => ⟨h.1.symm, h.2.symm⟩⟩
theorem alikeB_iff (x y : List Ent) : alikeB x y = true ↔ (chk2 x y = 0 → ∀ p ∈ prs x y, vEq p = true) := by
  unfold alikeB
  constructor
  · intro h hc p hp
    unfold difR at h
    rw [if_pos hc] at h
    unfold difL at h
    rw [List.isEmpty_iff, List.map_eq_nil_iff, List.filter_eq_nil_iff] at h
    simpa using h p hp
  · intro h
    rw [difR_nil h]
    rfl
theorem alikeB_comm (x y : List Ent) : alikeB x y = alikeB y x := by
  have hh : ∀ x y : List Ent, alikeB x y = true → alikeB y x = true := fun x y h => by
    rw [alikeB_iff] at h ⊢
    intro hc p hp
    rw [prs_swap x y] at hp
    obtain ⟨q, hq, rfl⟩ := List.mem_map.1 hp
    rw [vEq_swap]
    exact h (chk2_of (chk2_zero hc).2 (chk2_zero hc).1) q hq
  rcases h1 : alikeB x y with _ | _
  · rcases h2 : alikeB y x with _ | _
    · rfl
    · rw [hh y x h2] at h1; cases h1
  · exact (hh x y h1).symm
theorem talEq_comm (x y : List Ent) : talEq x y = talEq y x := by
  unfold talEq
  rw [decide_eq_decide]
  exact ⟨fun h => ⟨h.1.symm, h.2.1.symm, h.2.2.symm⟩, fun h => ⟨h.1.symm, h.2.1.symm, h.2.2.symm⟩⟩
theorem hitR_comm (a b : List Ent) (r : Rg) : hitR a b r = hitR b a r := by
  unfold hitR
  rw [talEq_comm, alikeB_comm]
theorem twinsF_hit {br lf : Int} (hb : rightB br lf = true) : ∀ (f : Nat) (mine theirs : List Ent) (l : List Rg) (r : Rg), MapOk mine → MapOk theirs → NowOk mine theirs l → twinsF br lf f mine theirs l = some r → rngCheck r.lo r.hi r.op = 0 ∧ hitR mine theirs r = true
  | 0, _, _, _, _, _, _, _, h => by cases h
  | f + 1, mine, theirs, l, r, hm, ht, hn, h => by
    rw [twinsF] at h
    split at h
    · cases h
    · split at h
      · rename_i q hq
        cases h
        exact ⟨hn.c r (List.mem_of_find?_eq_some hq), List.find?_some hq⟩
      · have h2 := twinsF_hit hb f theirs mine _ r ht hm (hn.next hb hm).swap h
        exact ⟨h2.1, by rw [hitR_comm]; exact h2.2⟩
/-- What is so where twins are found. -/
structure TwOk (a b : List Ent) (r : Rg) : Prop where
  ma : MapOk a
  mb : MapOk b
  c : rngCheck r.lo r.hi r.op = 0
  t : talEq (inG r a) (inG r b) = true
  k : chk2 (inG r a) (inG r b) = 0
  d : 0 < (difR (inG r a) (inG r b)).length
theorem twins_ok {a b : List Ent} {br lf : Int} {r : Rg} (h : twinsP a b br lf = some r) : TwOk a b r := by
  unfold twinsP at h
  split at h
  · rename_i hg
    obtain ⟨hz, hrt, -⟩ := gChk_zero hg
    have ma := mapOk_held (hz a (by simp))
    have mb := mapOk_held (hz b (by simp))
    obtain ⟨h1, h2⟩ := twinsF_hit hrt 600 b a _ r mb ma (nowOk_first mb ma) h
    rw [hitR_comm] at h2
    unfold hitR at h2
    simp only [Bool.and_eq_true, Bool.not_eq_true'] at h2
    refine ⟨ma, mb, h1, h2.1, chk2_of (mChk_in ma.c r) (mChk_in mb.c r), ?_⟩
    have h3 := h2.2
    unfold alikeB at h3
    rcases hd : difR (inG r a) (inG r b) with _ | ⟨x, l⟩
    · rw [hd] at h3; cases h3
    · simp
  · cases h
end Go.Proofs.YtiimoaplhhnklaaDoor
namespace Go.Proofs.YtiimoaplhhnklaaDoor
open Go.RowKit
set_option maxHeartbeats 8000000
set_option maxRecDepth 100000
set_option linter.unusedSimpArgs false
set_option linter.unusedVariables false
attribute [-go_sem] Builtin.append_
attribute [local go_sem ↓] eql_entE neq_entE

def markE : Ent := ⟨⟨#[109, 97, 114, 107]⟩, 0, 0, ⟨#[]⟩, false⟩
def behindE : Ent := ⟨⟨#[98, 101, 104, 105, 110, 100]⟩, 0, 0, ⟨#[]⟩, false⟩
def gmarks : List Ent := [markE, behindE]
theorem appendE2 {w : World} {B : Nat} {v lv : Value} {M L : List Ent} (hown : OwEn w B v M) (hx : EntSl w lv L) (hl : M.length + L.length ≤ 2000000000) (hB : B ≤ w.heap.size) :
    ∃ v' w', (Builtin.append_ #[22, 22] 22 #[v, lv]).run Tryd.prog w = .ok v' w' ∧ OwEn w' B v' (M ++ L) ∧ w.grownBy w' v.ownBlock ∧ (v'.ownBlock = v.ownBlock ∨ v'.ownBlock = some w.heap.size) := by
  obtain ⟨a, c, rfl, hc, -, hcl⟩ := hx
  rcases Nat.eq_zero_or_pos L.length with h0 | hp
  · obtain rfl : L = [] := List.length_eq_zero_iff.1 h0
    rw [List.append_nil]
    refine ⟨v, w, ?_, hown, ⟨rfl, rfl, rfl, Nat.le_refl _, fun _ _ _ => rfl⟩, .inl rfl⟩
    rcases hown.2 with ⟨e1, e2⟩ | ⟨g, cap, cur, e1, e2, e3, e4, e5⟩
    · rw [e1]; exact append_zero w none 0 0 (Nat.le_refl _) a c
    · rw [e1]; exact append_zero w _ _ cap e4 a c
  · obtain ⟨b, o, rfl, hE⟩ := hcl hp
    obtain ⟨i0, z, hinf, hs, hby, hby0, hz, hcc⟩ := ent_infoE
    obtain ⟨v', w', h1, h2, h3, -, h4⟩ := run_append_own_at (P := Tryd.prog) w B 22 22 55 i0 z 5 i0.bytes Tryd.underlying22 hinf hz hs rfl (by rw [hcc]; rfl) (by omega) v M.length (M.flatMap cE) hown ⟨b, o, none⟩ L.length c (L.flatMap cE) (flatE_len L)
      (fun j u hj => by
        have hjl : j < L.length * 5 := by
          rw [← flatE_len L]
          exact (List.getElem?_eq_some_iff.1 hj).1
        obtain ⟨g0, g1, g2, g3, g4⟩ := hE (j / 5) (by omega)
        have e1 : j = j / 5 * 5 + j % 5 := by omega
        have h5 := flat_get cE 5 (by omega) cE_len L (j / 5) (by omega) (j % 5) (by omega)
        rw [← e1, hj] at h5
        rw [radd_flatE]
        have h6 : j % 5 = 0 ∨ j % 5 = 1 ∨ j % 5 = 2 ∨ j % 5 = 3 ∨ j % 5 = 4 := by omega
        rcases h6 with h6 | h6 | h6 | h6 | h6 <;> rw [h6] at h5 e1 <;> simp [cE] at h5 <;> subst h5
        · rw [show o + j = o + j / 5 * 5 by omega]; exact g0
        · rw [show o + j = o + j / 5 * 5 + 1 by omega]; exact g1
        · rw [show o + j = o + j / 5 * 5 + 2 by omega]; exact g2
        · rw [show o + j = o + j / 5 * 5 + 3 by omega]; exact g3
        · rw [show o + j = o + j / 5 * 5 + 4 by omega]; exact g4)
      (cE_one L) (by unfold maxLen; omega) (by
        have : (M.length + L.length) * i0.bytes ≤ 2000000000 * 128 := Nat.mul_le_mul hl hby
        first | omega | (simp; omega)) hB
    refine ⟨v', w', h1, ?_, h3, h4⟩
    unfold OwEn
    rw [List.length_append, List.flatMap_append]
    exact h2
theorem ghLent_big {w : World} (l : List Ent) (lv : Value) (hs : EntSl w lv l) (hl : l.length ≤ 1100000000) :
    Calls Tryd.prog 7 #[lv] w fun e w' => ∃ v, e = .returned v ∧ OwEn w' w.heap.size v (l ++ gmarks) ∧ Ext w w' := by
  have hx1 : Ext w (w.alloc (.cells #[] 55)) := by (repeat (first | exact Ext.refl _ | apply Ext.drew_left | apply Ext.drew | apply Ext.alloc))
  have HE0 := hid_mk (show OwEn (w.alloc (.cells #[] 55)) w.heap.size (.slice (some ⟨w.heap.size, 0, none⟩) 0 0) [] from ownE_empty (heap_alloc_new w _) (Nat.le_refl _))
  obtain ⟨v1, w1, hrun1, ho1, hg1, -⟩ := appendE2 HE0.out (hs.ext hx1) (by simp; omega) (by simp)
  rw [List.nil_append] at ho1
  have hxw1 : Ext w w1 := ext_grown (base := w.heap.size) (e := 55) (size := 5) (n := 0) (xs := []) hx1 hg1 HE0.out (Nat.le_refl _)
  have hx2 : Ext w1 (w1.alloc (.cells #[.string ⟨#[109, 97, 114, 107]⟩, .int .i64 0, .int .i64 0, .string ⟨#[]⟩, .bool false, .string ⟨#[98, 101, 104, 105, 110, 100]⟩, .int .i64 0, .int .i64 0, .string ⟨#[]⟩, .bool false] 55)) := by (repeat (first | exact Ext.refl _ | apply Ext.drew_left | apply Ext.drew | apply Ext.alloc))
  obtain ⟨v2, w2, hrun2, ho2, hg2, -⟩ := appendE2 (ho1.ext hx2) (lv := .slice (some ⟨w1.heap.size, 0, none⟩) 2 2) (L := gmarks) ⟨_, 2, rfl, Nat.le_refl _, by simp [gmarks], fun _ => ⟨_, 0, rfl, fun i hi => by
    match i, hi with
    | 0, _ => exact ⟨by go_simp; rfl, by go_simp; rfl, by go_simp; rfl, by go_simp; rfl, by go_simp; rfl⟩
    | 1, _ => exact ⟨by go_simp; rfl, by go_simp; rfl, by go_simp; rfl, by go_simp; rfl, by go_simp; rfl⟩⟩⟩ (by simp [gmarks]; omega) (by have := hxw1.below.size; simp; omega)
  have hxw2 : Ext w w2 := ext_grown (Ext.trans _ _ _ hxw1 hx2) hg2 (ho1.ext hx2) (Nat.le_refl _)
  have HF := hid_mk (And.intro ho2 hxw2)
  obtain ⟨la, lc, rfl, -⟩ := hs
  obtain ⟨a1, c1, rfl⟩ := own_form ho1
  obtain ⟨a2, c2, rfl⟩ := own_form ho2
  rw [show (l ++ gmarks).length = l.length + 2 by simp [gmarks]] at hrun2 HF
  clear ho1 ho2 hg1 hg2 hx1 hx2 hxw1 hxw2
  go_enter Tryd.func7, Tryd.ntmps7
  go_wp2
  go_ret
  exact ⟨_, rfl, HF.out.1, HF.out.2⟩
theorem OwEn.shp {B : Nat} {w : World} {v : Value} {l : List Ent} (h : OwEn w B v l) : Shp B w 55 5 v := by
  rcases h.2 with ⟨e1, e2⟩ | ⟨g, cap, cur, e1, e2, e3, e4, e5, e6, e7⟩
  · rw [e1]; exact Shp.zero
  · exact ⟨_, _, cap, e1, e4, .inr ⟨g, cur, rfl, e2, e3, e6, e5⟩⟩
theorem ghStill_big {B : Nat} {w : World} {v lv : Value} {l : List Ent} (h : OwEn w B v (l ++ gmarks)) (hs : EntSl w lv l) (hl : l.length ≤ 1100000000) (hB : B ≤ w.heap.size) :
    Calls Tryd.prog 10 #[v, lv] w fun e w' => e = .returned (.bool true) ∧ Xl v.ownBlock.toList w w' := by
  obtain ⟨g, c, rfl, h1, h2, h3, h4, h5⟩ := ownE_at h (by simp [gmarks])
  have hlen : (l ++ gmarks).length = l.length + 2 := by simp [gmarks]
  have HSH := hid_mk h.shp
  obtain ⟨m0, -, -, -, -⟩ := h5 l.length (by omega)
  obtain ⟨m1, -, -, -, -⟩ := h5 (l.length + 1) (by omega)
  rw [show (l ++ gmarks)[l.length]'(by omega) = markE by simp [gmarks]] at m0
  rw [show (l ++ gmarks)[l.length + 1]'(by omega) = behindE by simp [gmarks]] at m1
  dsimp only [markE, behindE] at m0 m1
  have HPRE := hid_mk (show EntSl w (.slice (some ⟨g, 0, none⟩) l.length c) l from ⟨_, c, rfl, by omega, by omega, fun hp => ⟨g, 0, rfl, fun i hi => by
    have := h5 i (by omega)
    rw [List.getElem_append_left hi] at this
    rw [Nat.zero_add]
    exact this⟩⟩)
  rw [hlen] at h1 HSH ⊢
  have HS := hid_mk hs
  obtain ⟨la, lc, rfl, -⟩ := hs
  have hgl := cell_lt m0
  have hw2 : wrap64 ((l.length : Int) + 2 - 2) = (l.length : Int) := by rw [show (l.length : Int) + 2 - 2 = l.length by omega]; exact w64in (by omega)
  have hw3 : wrap64 ((l.length : Int) + 1) = (l.length : Int) + 1 := w64in (by omega)
  have HW2 := hid_mk hw2
  have HW3 := hid_mk hw3
  clear h h5 hlen hw2 hw3
  go_enter Tryd.func10, Tryd.ntmps10
  go_wp2_with fail
  refine (ghSame_any _ _ l l HPRE.out HS.out).mono ?_
  rintro e w1 ⟨rfl, hx1⟩
  rw [show decide (l = l) = true from decide_eq_true rfl]
  replace m0 := cell_ext hx1 m0
  replace m1 := cell_ext hx1 m1
  replace hgl := cell_lt m0
  have HX1 := hid_mk hx1
  have HSH1 := hid_mk (HSH.out.ext hx1)
  have q1 : (0 : Int) ≤ (l.length : Int) := by omega
  have q2 : (l.length : Int) < (l.length : Int) + 2 := by omega
  have q3 : (0 : Int) ≤ (l.length : Int) + 1 := by omega
  have q4 : (l.length : Int) + 1 < (l.length : Int) + 2 := by omega
  clear hx1
  go_wp2_with fail
  go_loopw [7] (fun i wr => ∃ k : Nat, k ≤ l.length + 2 ∧ i = .int .i64 (k : Int) ∧ Shp B wr 55 5 (.slice (some ⟨g, 0, none⟩) (l.length + 2) c) ∧ Xl [g] w wr) (fun i _ => l.length + 2 - (intOf i).toNat)
  case atStart => exact ⟨0, Nat.zero_le _, rfl, HSH1.out, Xl.of HX1.out⟩
  case round =>
    clear m0 m1 hgl
    obtain ⟨k, hk, rfl, hsh, hx⟩ := hrel
    have HS2 := hid_mk hsh
    have HX := hid_mk hx
    clear hsh hx
    by_cases hlt : k < l.length + 2
    · obtain ⟨S, cur, eS, hSB, hSH, hc⟩ := shp_cells5 HS2.out hlt
      cases eS
      obtain ⟨⟨v0, k0⟩, z0⟩ := hc 0 (by omega)
      obtain ⟨⟨v1, k1⟩, z1⟩ := hc 1 (by omega)
      obtain ⟨⟨v2, k2⟩, z2⟩ := hc 2 (by omega)
      obtain ⟨⟨v3, k3⟩, z3⟩ := hc 3 (by omega)
      obtain ⟨⟨v4, k4⟩, z4⟩ := hc 4 (by omega)
      simp only [Nat.add_zero] at k0 z0
      have hSl := cell_lt k0
      have hk1 : (k : Int) < (l.length : Int) + 2 := by omega
      have hk00 : (0 : Int) ≤ (k : Int) := by omega
      have HW := hid_mk (show wrap64 ((k : Int) + 1) = (k : Int) + 1 from w64in (by omega))
      clear hc hSH
      go_wp2
      go_roundw
      case rel => exact ⟨k + 1, hlt, (by first | exact congrArg (Value.int .i64) HW.out | rfl), ((((HS2.out.set).set).set).set).set, ((((HX.out.set (by simp)).set (by simp)).set (by simp)).set (by simp)).set (by simp)⟩
      case measure => (try simp only [HW.out]); simp [intOf]; omega
    · obtain rfl : k = l.length + 2 := by omega
      have hmm : ¬ (((l.length + 2 : Nat)) : Int) < (l.length : Int) + 2 := by omega
      have hmm2 : ¬ ((l.length : Int) + 2) < (l.length : Int) + 2 := by omega
      go_wp2
      go_ret
      exact ⟨rfl, by simpa [Value.ownBlock] using HX.out⟩
end Go.Proofs.YtiimoaplhhnklaaDoor
namespace Go.Proofs.YtiimoaplhhnklaaDoor
open Go.RowKit Go.Lib
set_option maxHeartbeats 4000000
set_option maxRecDepth 100000
set_option linter.unusedSimpArgs false
set_option linter.unusedVariables false
attribute [-go_sem] Builtin.append_
attribute [local go_sem ↓] eql_tally
theorem en_GhTwins : Enters Tryd.prog 8 := ⟨_, Tryd.func8, by kernel_rfl, rfl⟩
theorem neq_rg (w : World) (r : Rg) : (binOp .neq 26 (rgV r) (rgV r)).run Tryd.prog w = .ok (.bool false) w := by
  obtain ⟨lo, hi, op⟩ := r
  dsimp only [rgV]
  go_simp
attribute [local go_sem ↓] neq_rg
theorem pre_sl {W : World} {B : Nat} {v : Value} {l : List Ent} (h : OwEn W B v (l ++ gmarks)) (hl : l.length ≤ 1100000000) : ∃ g c, v = .slice (some ⟨g, 0, none⟩) (l.length + 2) c ∧ l.length + 2 ≤ c ∧ B ≤ g ∧ EntSl W (.slice (some ⟨g, 0, none⟩) l.length c) l := by
  obtain ⟨g, c, rfl, h1, h2, h3, h4, h5⟩ := ownE_at h (by simp [gmarks])
  have hlen : (l ++ gmarks).length = l.length + 2 := by simp [gmarks]
  rw [hlen] at h1
  refine ⟨g, c, by rw [hlen], h1, h3, ⟨_, c, rfl, by omega, by omega, fun hp => ⟨g, 0, rfl, fun i hi => by
    have := h5 i (by omega)
    rw [List.getElem_append_left hi] at this
    rw [Nat.zero_add]
    exact this⟩⟩⟩
theorem pre_ent {W : World} {B g c : Nat} {l : List Ent} (h : OwEn W B (.slice (some ⟨g, 0, none⟩) (l.length + 2) c) (l ++ gmarks)) (hl : l.length ≤ 1100000000) : EntSl W (.slice (some ⟨g, 0, none⟩) l.length c) l := by
  obtain ⟨g', c', e, -, -, h4⟩ := pre_sl h hl
  cases e
  exact h4
/-- A range's zero in memory. -/
structure ZAt (V : World) (G : Nat) : Prop where
  u0 : V.cell? ⟨G, 0, none⟩ = some (.string ⟨#[]⟩)
  u1 : V.cell? ⟨G, 1, none⟩ = some (.string ⟨#[]⟩)
  u2 : V.cell? ⟨G, 2, none⟩ = some (.bool false)
  k0 : V.frozen? ⟨G, 0, none⟩ = false
  k1 : V.frozen? ⟨G, 1, none⟩ = false
  k2 : V.frozen? ⟨G, 2, none⟩ = false
  kl : G < V.heap.size
theorem zAt_new {w V : World} (hx : Ext (w.alloc (.cells #[.string ⟨#[]⟩, .string ⟨#[]⟩, .bool false] 26)) V) : ZAt V w.heap.size := by
  have hb := (hx.below.block w.heap.size (by simp)).trans (heap_alloc_new w (.cells #[.string ⟨#[]⟩, .string ⟨#[]⟩, .bool false] 26))
  have u0 : V.cell? ⟨w.heap.size, 0, none⟩ = some (.string ⟨#[]⟩) := by simp [World.cell?, hb]
  exact ⟨u0, by simp [World.cell?, hb], by simp [World.cell?, hb], by simp [World.frozen?, hb], by simp [World.frozen?, hb], by simp [World.frozen?, hb], cell_lt u0⟩
/-- Behind both Twins: what is laid. -/
structure GtAt (W Z : World) (G g10 c10 : Nat) (b : List Ent) (r : Rg) : Prop where
  x : Ext W Z
  o : OwEn Z W.heap.size (.slice (some ⟨g10, 0, none⟩) (b.length + 2) c10) (b ++ gmarks)
  c0 : Z.cell? ⟨G, 0, none⟩ = some (.string r.lo)
  c1 : Z.cell? ⟨G, 1, none⟩ = some (.string r.hi)
  c2 : Z.cell? ⟨G, 2, none⟩ = some (.bool r.op)
theorem GtAt.ext {W Z Z' : World} {G g10 c10 : Nat} {b : List Ent} {r : Rg} (h : GtAt W Z G g10 c10 b r) (hx : Ext Z Z') : GtAt W Z' G g10 c10 b r := ⟨Ext.trans _ _ _ h.x hx, h.o.ext hx, cell_ext hx h.c0, cell_ext hx h.c1, cell_ext hx h.c2⟩
theorem GtAt.xl {W Z Z' : World} {G g9 g10 c10 : Nat} {b : List Ent} {r : Rg} (h : GtAt W Z G g10 c10 b r) (hx : Xl [g9] Z Z') (h0 : W.heap.size ≤ g9) (h1 : g9 ≠ G) (h2 : g9 ≠ g10) : GtAt W Z' G g10 c10 b r := by
  have hn : G ∉ [g9] := by simp; exact fun e => h1 e.symm
  have hl := cell_lt h.c0
  exact ⟨Xl.ext h.x hx (by simp; exact h0), h.o.xl hx (fun g e hm => by cases e; simp at hm; exact h2 hm.symm), (hx.cell hl hn).trans h.c0, (hx.cell hl hn).trans h.c1, (hx.cell hl hn).trans h.c2⟩
/-- The same without what was lent. -/
structure GuAt (W Z : World) (G : Nat) (r : Rg) : Prop where
  x : Ext W Z
  c0 : Z.cell? ⟨G, 0, none⟩ = some (.string r.lo)
  c1 : Z.cell? ⟨G, 1, none⟩ = some (.string r.hi)
  c2 : Z.cell? ⟨G, 2, none⟩ = some (.bool r.op)
theorem GuAt.ext {W Z Z' : World} {G : Nat} {r : Rg} (h : GuAt W Z G r) (hx : Ext Z Z') : GuAt W Z' G r := ⟨Ext.trans _ _ _ h.x hx, cell_ext hx h.c0, cell_ext hx h.c1, cell_ext hx h.c2⟩
theorem GtAt.fin {W Z Z' : World} {G g10 c10 : Nat} {b : List Ent} {r : Rg} (h : GtAt W Z G g10 c10 b r) (hx : Xl [g10] Z Z') (h0 : W.heap.size ≤ g10) (h1 : g10 ≠ G) : GuAt W Z' G r := by
  have hn : G ∉ [g10] := by simp; exact fun e => h1 e.symm
  have hl := cell_lt h.c0
  exact ⟨Xl.ext h.x hx (by simp; exact h0), (hx.cell hl hn).trans h.c0, (hx.cell hl hn).trans h.c1, (hx.cell hl hn).trans h.c2⟩
theorem ghostTwins_walk (a b : List Ent) (av bv : Value) (br lf : Int) (W : World) (ha : EntSl W av a) (hb : EntSl W bv b) (hl : LanesAt W) :
    Calls Tryd.prog 3 #[av, bv, .int .i64 br, .int .i64 lf] W fun e w' => e = .returned (.bool true) ∧ Ext W w' := by
  have HS := hid_mk (And.intro ha hb)
  have HL := hid_mk hl
  obtain ⟨T, hT⟩ : ∃ T, twinsP a b br lf = T := ⟨_, rfl⟩
  obtain ⟨z, hz⟩ : ∃ z, gChk [a, b] br lf 0 = z := ⟨_, rfl⟩
  obtain ⟨rq, hrq⟩ : ∃ rq, T.getD zRg = rq := ⟨_, rfl⟩
  obtain ⟨iq, hiq⟩ : ∃ iq, T.isSome = iq := ⟨_, rfl⟩
  have HTV := hid_mk (show twinsV a b br lf = .tuple #[.agg #[.string rq.lo, .string rq.hi, .bool rq.op], .bool iq, .int .i64 z] by rw [twinsV, hT, hz, hrq, hiq])
  have HIQ := hid_mk (show iq = true → TwOk a b rq from fun h => by
    rw [← hiq] at h
    cases T with
    | none => cases h
    | some r => rw [← hrq]; exact twins_ok hT)
  clear hT hz hrq hiq
  obtain ⟨xa, xc, rfl, -⟩ := ha
  obtain ⟨ya, yc, rfl, -⟩ := hb
  clear hl
  go_enter Tryd.func3, Tryd.ntmps3
  go_wp2_with fail
  refine (weigh_any _ a HS.out.1).mono ?_
  rintro e W1 ⟨n, rfl, hn0, hn1, hn2, hx⟩
  have HX1 := hid_mk hx
  have HN := hid_mk hn2
  clear hx hn2
  by_cases hbig : 1073741824 ≤ n
  · go_wp2
    go_ret
    exact ⟨rfl, HX1.out⟩
  go_wp2_with fail
  refine (weigh_any _ b (HS.out.2.ext HX1.out)).mono ?_
  rintro e W2 ⟨m, rfl, hm0, hm1, hm2, hx⟩
  have HX2 := hid_mk (Ext.trans _ _ _ HX1.out hx)
  have HM := hid_mk hm2
  clear hx hm2 HX1
  by_cases hbig2 : 1073741824 ≤ m
  · go_wp2
    go_ret
    exact ⟨rfl, HX2.out⟩
  have hla := HN.out (by omega)
  have hlb := HM.out (by omega)
  have HLL := hid_mk (show a.length ≤ 1100000000 ∧ b.length ≤ 1100000000 from ⟨by omega, by omega⟩)
  clear hla hlb HN HM
  go_wp2_with fail
  refine (ghLent_big a _ (HS.out.1.ext HX2.out) HLL.out.1).mono ?_
  rintro e W3 ⟨v, rfl, ho, hx⟩
  have HX3 := hid_mk (Ext.trans _ _ _ HX2.out hx)
  have HO9 := hid_mk (ho.lower HX2.out.below.size)
  obtain ⟨g9, c9, e9, hc9, hB9, -⟩ := pre_sl ho HLL.out.1
  subst e9
  have h93 := (World.ownsRow.lt ho g9 rfl).2
  clear hx ho HX2
  go_wp2_with fail
  refine (ghLent_big b _ (HS.out.2.ext HX3.out) HLL.out.2).mono ?_
  rintro e W4 ⟨v, rfl, ho, hx⟩
  have HX4 := hid_mk (Ext.trans _ _ _ HX3.out hx)
  replace HO9 := hid_mk (HO9.out.ext hx)
  have HO10 := hid_mk (ho.lower HX3.out.below.size)
  have HG9 := hid_mk (World.ownsRow.lt HO9.out g9 rfl)
  obtain ⟨g10, c10, e10, hc10, hB10, -⟩ := pre_sl ho HLL.out.2
  subst e10
  have hgg : g9 < g10 ∨ g9 = g10 ∨ g10 < g9 := by omega
  clear hx ho HX3
  have q1 : (0 : Int) ≤ (a.length : Int) := by omega
  have q2 : (a.length : Int) ≤ (c9 : Int) := by omega
  have q3 : (0 : Int) ≤ (b.length : Int) := by omega
  have q4 : (b.length : Int) ≤ (c10 : Int) := by omega
  have q5 : a.length ≤ c9 := by omega
  have q6 : b.length ≤ c10 := by omega
  have q7 : a.length ≠ c9 := by omega
  have HP9 := hid_mk (pre_ent HO9.out HLL.out.1)
  have HP10 := hid_mk (pre_ent HO10.out HLL.out.2)
  have hg9 := (World.ownsRow.lt HO9.out g9 rfl)
  have hg10 := (World.ownsRow.lt HO10.out g10 rfl)
  have hne : g9 < g10 := Nat.lt_of_lt_of_le h93 hB10
  have HZZ := hid_mk (fun (V : World) (hx : Ext (W4.alloc (.cells #[.string ⟨#[]⟩, .string ⟨#[]⟩, .bool false] 26)) V) => (show ZAt V W4.heap.size from zAt_new hx))
  go_wp2_with fail
  refine wp_region_held_planC Ext (fun i => i != 16) (fun i => [0, 1, 3, 4, 5, 7, 8, 9, 11, 12, 13, 14, 17, 18].contains i) (.quiet 0 (.quiet 1 (.quiet 2 (.quiet 3 (.quiet 4 (.quiet 5 (.quiet 6 (.quiet 7 (.quiet 8 (.quiet 9 (.alt 10 (.quiet 11 (.quiet 12 (.quiet 13 (.quiet 14 (.alt 15 (.alt 16 (.quiet 17 (.quiet 18 .done)) .stop) .stop))))) (.alt 15 (.alt 10 (.quiet 11 (.quiet 12 (.quiet 13 (.quiet 14 (.alt 16 (.quiet 17 (.quiet 18 .done)) .stop))))) .stop) .stop)))))))))))) (by kernel_rfl) (by kernel_rfl) Ext.refl Ext.trans (by intro c a w d v h; cases d <;> exact h) (fun ops HO => ?_)
  refine planC_calm _ (hi_of HO rfl) rfl (fun w' => by go_simp; rfl) ?_
  simp only [Act.put, List.setIfInBounds_toArray, List.set_cons_succ, List.set_cons_zero]
  refine planC_calm _ (hi_of HO rfl) rfl (fun w' => by go_simp; rfl) ?_
  simp only [Act.put, List.setIfInBounds_toArray, List.set_cons_succ, List.set_cons_zero]
  refine planC_read _ (hi_of HO rfl) rfl rfl (fun w' hE => by (repeat (with_reducible replace hE := Ext.unD hE)); have hcE := hE.hc; clear hE; go_simp; rfl) ?_
  simp only [Act.put, List.setIfInBounds_toArray, List.set_cons_succ, List.set_cons_zero]
  refine planC_calm _ (hi_of HO rfl) rfl (fun w' => by go_simp; rfl) ?_
  simp only [Act.put, List.setIfInBounds_toArray, List.set_cons_succ, List.set_cons_zero]
  refine planC_calm _ (hi_of HO rfl) rfl (fun w' => by go_simp; rfl) ?_
  simp only [Act.put, List.setIfInBounds_toArray, List.set_cons_succ, List.set_cons_zero]
  refine planC_calm _ (hi_of HO rfl) rfl (fun w' => by go_simp; rfl) ?_
  simp only [Act.put, List.setIfInBounds_toArray, List.set_cons_succ, List.set_cons_zero]
  refine planC_read _ (hi_of HO rfl) rfl rfl (fun w' hE => by (repeat (with_reducible replace hE := Ext.unD hE)); have hcE := hE.hc; clear hE; go_simp; rfl) ?_
  simp only [Act.put, List.setIfInBounds_toArray, List.set_cons_succ, List.set_cons_zero]
  refine planC_calm _ (hi_of HO rfl) rfl (fun w' => by go_simp; rfl) ?_
  simp only [Act.put, List.setIfInBounds_toArray, List.set_cons_succ, List.set_cons_zero]
  refine planC_calm _ (hi_of HO rfl) rfl (fun w' => by go_simp; rfl) ?_
  simp only [Act.put, List.setIfInBounds_toArray, List.set_cons_succ, List.set_cons_zero]
  refine planC_calm _ (hi_of HO rfl) rfl (fun w' => by go_simp; rfl) ?_
  simp only [Act.put, List.setIfInBounds_toArray, List.set_cons_succ, List.set_cons_zero]
  refine planC_fork ?lA101 ?lB101
  case' lA101 =>
    refine planC_call1 en_GhTwins (hi_of HO rfl) rfl rfl (by go_simp; rfl) (by exact ghTwins_any a b _ _ br lf (HP9.out.ext (by (repeat (first | exact Ext.refl _ | apply Ext.drew_left | apply Ext.drew | apply Ext.alloc)))) (HP10.out.ext (by (repeat (first | exact Ext.refl _ | apply Ext.drew_left | apply Ext.drew | apply Ext.alloc)))) (HL.out.ext (Ext.trans _ _ _ HX4.out (by (repeat (first | exact Ext.refl _ | apply Ext.drew_left | apply Ext.drew | apply Ext.alloc)))))) ?_
    rintro e V ⟨rfl, hx⟩
    refine ⟨_, rfl, fun _ => hx, ?_⟩
    simp only [Act.put, List.setIfInBounds_toArray, List.set_cons_succ, List.set_cons_zero]
    rw [HTV.out]
    have HXV := hid_mk (show Ext W4 V from Ext.trans _ _ _ (by (repeat (first | exact Ext.refl _ | apply Ext.drew_left | apply Ext.drew | apply Ext.alloc))) hx)
    try have HZV := hid_mk (HZZ.out _ (Ext.unD hx))
    clear hx
    refine planC_calm _ (hi_of HO rfl) rfl (fun w' => by go_simp; rfl) ?_
    simp only [Act.put, List.setIfInBounds_toArray, List.set_cons_succ, List.set_cons_zero]
    refine planC_calm _ (hi_of HO rfl) rfl (fun w' => by go_simp; rfl) ?_
    simp only [Act.put, List.setIfInBounds_toArray, List.set_cons_succ, List.set_cons_zero]
    refine planC_calm _ (hi_of HO rfl) rfl (fun w' => by go_simp; rfl) ?_
    simp only [Act.put, List.setIfInBounds_toArray, List.set_cons_succ, List.set_cons_zero]
    refine planC_calm _ (hi_of HO rfl) rfl (fun w' => by go_simp; rfl) ?_
    simp only [Act.put, List.setIfInBounds_toArray, List.set_cons_succ, List.set_cons_zero]
    refine planC_loud1 (hi_of HO rfl) rfl ?_
    go_simp
    refine ⟨by (repeat (first | exact Ext.refl _ | apply Ext.drew_left | apply Ext.drew | apply Ext.alloc)), ?_⟩
    try have hzv := HZV.out
    try obtain ⟨u0, u1, u2, k0, k1, k2, kl⟩ := hzv
    refine planC_loud1 (hi_of HO rfl) rfl ?_
    go_simp
    refine planC_calm _ (hi_of HO rfl) rfl (fun w' => by go_simp; rfl) ?_
    simp only [Act.put, List.setIfInBounds_toArray, List.set_cons_succ, List.set_cons_zero]
    refine planC_calm _ (hi_of HO rfl) rfl (fun w' => by go_simp; rfl) ?_
    simp only [Act.put, List.setIfInBounds_toArray, List.set_cons_succ, List.set_cons_zero]
    refine planC_done ?fin102
  case' lB101 =>
    refine planC_loud1 (hi_of HO rfl) rfl ?_
    go_simp
    refine ⟨by (repeat (first | exact Ext.refl _ | apply Ext.drew_left | apply Ext.drew | apply Ext.alloc)), ?_⟩
    refine planC_call1 en_GhTwins (hi_of HO rfl) rfl rfl (by go_simp; rfl) (by exact ghTwins_any a b _ _ br lf (HP9.out.ext (by (repeat (first | exact Ext.refl _ | apply Ext.drew_left | apply Ext.drew | apply Ext.alloc)))) (HP10.out.ext (by (repeat (first | exact Ext.refl _ | apply Ext.drew_left | apply Ext.drew | apply Ext.alloc)))) (HL.out.ext (Ext.trans _ _ _ HX4.out (by (repeat (first | exact Ext.refl _ | apply Ext.drew_left | apply Ext.drew | apply Ext.alloc)))))) ?_
    rintro e V ⟨rfl, hx⟩
    refine ⟨_, rfl, fun _ => hx, ?_⟩
    simp only [Act.put, List.setIfInBounds_toArray, List.set_cons_succ, List.set_cons_zero]
    rw [HTV.out]
    have HXV := hid_mk (show Ext W4 V from Ext.trans _ _ _ (by (repeat (first | exact Ext.refl _ | apply Ext.drew_left | apply Ext.drew | apply Ext.alloc))) hx)
    try have HZV := hid_mk (HZZ.out _ (Ext.unD hx))
    clear hx
    refine planC_calm _ (hi_of HO rfl) rfl (fun w' => by go_simp; rfl) ?_
    simp only [Act.put, List.setIfInBounds_toArray, List.set_cons_succ, List.set_cons_zero]
    refine planC_calm _ (hi_of HO rfl) rfl (fun w' => by go_simp; rfl) ?_
    simp only [Act.put, List.setIfInBounds_toArray, List.set_cons_succ, List.set_cons_zero]
    refine planC_calm _ (hi_of HO rfl) rfl (fun w' => by go_simp; rfl) ?_
    simp only [Act.put, List.setIfInBounds_toArray, List.set_cons_succ, List.set_cons_zero]
    refine planC_calm _ (hi_of HO rfl) rfl (fun w' => by go_simp; rfl) ?_
    simp only [Act.put, List.setIfInBounds_toArray, List.set_cons_succ, List.set_cons_zero]
    try have hzv := HZV.out
    try obtain ⟨u0, u1, u2, k0, k1, k2, kl⟩ := hzv
    refine planC_loud1 (hi_of HO rfl) rfl ?_
    go_simp
    refine planC_calm _ (hi_of HO rfl) rfl (fun w' => by go_simp; rfl) ?_
    simp only [Act.put, List.setIfInBounds_toArray, List.set_cons_succ, List.set_cons_zero]
    refine planC_calm _ (hi_of HO rfl) rfl (fun w' => by go_simp; rfl) ?_
    simp only [Act.put, List.setIfInBounds_toArray, List.set_cons_succ, List.set_cons_zero]
    refine planC_done ?fin103
  case lA101 =>
    have hGl : g9 < V.heap.size ∧ g10 < V.heap.size := ⟨Nat.lt_of_lt_of_le hg9.2 HXV.out.below.size, Nat.lt_of_lt_of_le hg10.2 HXV.out.below.size⟩
    have hst : GtAt W (V.alloc (.cells #[.string rq.lo, .string rq.hi, .bool rq.op] 26)) V.heap.size g10 c10 b rq ∧ OwEn (V.alloc (.cells #[.string rq.lo, .string rq.hi, .bool rq.op] 26)) W.heap.size (.slice (some ⟨g9, 0, none⟩) (a.length + 2) c9) (a ++ gmarks) :=
      ⟨⟨Ext.trans _ _ _ (Ext.trans _ _ _ HX4.out HXV.out) (by (repeat (first | exact Ext.refl _ | apply Ext.drew_left | apply Ext.drew | apply Ext.alloc))), HO10.out.ext (Ext.trans _ _ _ HXV.out (by (repeat (first | exact Ext.refl _ | apply Ext.drew_left | apply Ext.drew | apply Ext.alloc)))), by go_simp, by go_simp, by go_simp⟩, HO9.out.ext (Ext.trans _ _ _ HXV.out (by (repeat (first | exact Ext.refl _ | apply Ext.drew_left | apply Ext.drew | apply Ext.alloc))))⟩
    have HST := hid_mk hst
    clear hst
    go_wp2_with fail
    refine gen_callsK (fun Z => GtAt W Z (V.heap.size) g10 c10 b rq ∧ OwEn Z W.heap.size (.slice (some ⟨g9, 0, none⟩) (a.length + 2) c9) (a ++ gmarks)) HST.out ?_
    rintro Z1 ⟨h1, h9⟩
    refine (rTwins_any a b _ _ br lf (HS.out.1.ext h1.x) (HS.out.2.ext h1.x)).mono ?_
    rintro e Z2 ⟨rfl, hx⟩
    rw [HTV.out]
    have HZ2 := hid_mk (h1.ext hx)
    have HQ9 := hid_mk (h9.ext hx)
    clear h1 h9 hx HST
    have c0 := HZ2.out.c0
    have c1 := HZ2.out.c1
    have c2 := HZ2.out.c2
    have cl := cell_lt c0
    go_wp2_with fail
    refine gen_callsK (fun Z => GtAt W Z (V.heap.size) g10 c10 b rq ∧ OwEn Z W.heap.size (.slice (some ⟨g9, 0, none⟩) (a.length + 2) c9) (a ++ gmarks)) ⟨HZ2.out.ext (by (repeat (first | exact Ext.refl _ | apply Ext.drew_left | apply Ext.drew | apply Ext.alloc))), HQ9.out.ext (by (repeat (first | exact Ext.refl _ | apply Ext.drew_left | apply Ext.drew | apply Ext.alloc)))⟩ ?_
    rintro Z3 ⟨h3, h9⟩
    refine (ghStill_big h9 (HS.out.1.ext h3.x) HLL.out.1 h3.x.below.size).mono ?_
    rintro e Z4 ⟨rfl, hx⟩
    have HZ4 := hid_mk (h3.xl (g9 := g9) hx hg9.1 (by omega) (by omega))
    clear h3 h9 hx HZ2 HQ9
    clear c0 c1 c2 cl
    go_wp2_with fail
    refine (ghStill_big HZ4.out.o (HS.out.2.ext HZ4.out.x) HLL.out.2 HZ4.out.x.below.size).mono ?_
    rintro e Z5 ⟨rfl, hx⟩
    have HZ5 := hid_mk (HZ4.out.fin hx hg10.1 (by omega))
    clear hx HZ4
    cases iq with
    | false =>
      go_wp2
      go_ret
      exact ⟨rfl, HZ5.out.x⟩
    | true =>
      have HTW := hid_mk (HIQ.out rfl)
      have HI1 := hid_mk (inR_ok HTW.out.ma HTW.out.c)
      have HI2 := hid_mk (inR_ok HTW.out.mb HTW.out.c)
      obtain ⟨P, hP⟩ : ∃ P, inG rq a = P := ⟨_, rfl⟩
      obtain ⟨Q, hQ⟩ : ∃ Q, inG rq b = Q := ⟨_, rfl⟩
      have HTT := hid_mk (show decide ((P.length : Int) = (Q.length : Int) ∧ sum0 P = sum0 Q ∧ sum1 P = sum1 Q) = true from by rw [← hP, ← hQ]; exact HTW.out.t)
      have HTK := hid_mk (show chk2 P Q = 0 by rw [← hP, ← hQ]; exact HTW.out.k)
      have HTD := hid_mk (show 0 < (difR P Q).length by rw [← hP, ← hQ]; exact HTW.out.d)
      have hPl : P.length ≤ 256 := by rw [← hP]; exact Nat.le_trans (inF_len _ _ _ _) HTW.out.ma.n
      have hQl : Q.length ≤ 256 := by rw [← hQ]; exact Nat.le_trans (inF_len _ _ _ _) HTW.out.mb.n
      rw [hP] at HI1
      rw [hQ] at HI2
      clear hP hQ
      have c0 := HZ5.out.c0
      have c1 := HZ5.out.c1
      have c2 := HZ5.out.c2
      have cl := cell_lt c0
      go_wp2_with fail
      refine (mIn_any rq.lo rq.hi rq.op a _ (HS.out.1.ext HZ5.out.x) (by have := HTW.out.ma.n; omega)).mono ?_
      rintro e Z6 ⟨pv, rfl, ho, hx⟩
      rw [HI1.out.1]
      rw [HI1.out.2] at ho
      have HZ6 := hid_mk (HZ5.out.ext hx)
      have HPS := hid_mk (ho.sl (by omega))
      obtain ⟨pa, pc, rfl⟩ := own_form ho
      clear ho hx HZ5
      clear c0 c1 c2 cl
      have c0 := HZ6.out.c0
      have c1 := HZ6.out.c1
      have c2 := HZ6.out.c2
      have cl := cell_lt c0
      go_wp2_with fail
      refine (mIn_any rq.lo rq.hi rq.op b _ (HS.out.2.ext HZ6.out.x) (by have := HTW.out.mb.n; omega)).mono ?_
      rintro e Z7 ⟨qv, rfl, ho, hx⟩
      rw [HI2.out.1]
      rw [HI2.out.2] at ho
      have HZ7 := hid_mk (HZ6.out.ext hx)
      replace HPS := hid_mk (HPS.out.ext hx)
      have HQS := hid_mk (ho.sl (by omega))
      obtain ⟨qa, qc, rfl⟩ := own_form ho
      clear ho hx HZ6
      clear c0 c1 c2 cl
      go_wp2_with fail
      refine (mDiffer_any P Q _ _ HPS.out HQS.out (by omega) (by omega)).mono ?_
      rintro e Z8 ⟨dv, rfl, ho, hx⟩
      rw [HTK.out]
      have HZ8 := hid_mk (HZ7.out.ext hx)
      replace HPS := hid_mk (HPS.out.ext hx)
      replace HQS := hid_mk (HQS.out.ext hx)
      obtain ⟨da, dc, rfl⟩ := own_form ho
      have hdl : (0 : Int) < ((difR P Q).length : Int) := by have := HTD.out; omega
      obtain ⟨dn, hdn⟩ : ∃ dn, (difR P Q).length = dn := ⟨_, rfl⟩
      rw [hdn] at hdl ⊢
      clear ho hx HZ7 hdn
      go_wp2_with fail
      refine (tlAll_any P _ (HL.out.ext HZ8.out.x) HPS.out).mono ?_
      rintro e Z9 ⟨rfl, hx⟩
      have HZ9 := hid_mk (HZ8.out.ext hx)
      replace HQS := hid_mk (HQS.out.ext hx)
      clear hx HZ8
      go_wp2_with fail
      refine (tlAll_any Q _ (HL.out.ext HZ9.out.x) HQS.out).mono ?_
      rintro e ZA ⟨rfl, hx⟩
      have HZA := hid_mk (HZ9.out.ext hx)
      have htt := HTT.out
      clear hx HZ9
      go_wp2
      go_ret
      exact ⟨by first | rfl | (rw [htt]; rfl) | simp [htt], HZA.out.x⟩
  case lB101 =>
    have hGl : g9 < W4.heap.size ∧ g10 < W4.heap.size := ⟨hg9.2, hg10.2⟩
    have hxz : Xl [W4.heap.size] V (((V.setCell ⟨W4.heap.size, 0, none⟩ (.string rq.lo)).setCell ⟨W4.heap.size, 1, none⟩ (.string rq.hi)).setCell ⟨W4.heap.size, 2, none⟩ (.bool rq.op)) := (((Xl.refl V).set (by simp)).set (by simp)).set (by simp)
    have hzv := HZV.out
    obtain ⟨u0, u1, u2, k0, k1, k2, kl⟩ := hzv
    have hst : GtAt W (((V.setCell ⟨W4.heap.size, 0, none⟩ (.string rq.lo)).setCell ⟨W4.heap.size, 1, none⟩ (.string rq.hi)).setCell ⟨W4.heap.size, 2, none⟩ (.bool rq.op)) W4.heap.size g10 c10 b rq ∧ OwEn (((V.setCell ⟨W4.heap.size, 0, none⟩ (.string rq.lo)).setCell ⟨W4.heap.size, 1, none⟩ (.string rq.hi)).setCell ⟨W4.heap.size, 2, none⟩ (.bool rq.op)) W.heap.size (.slice (some ⟨g9, 0, none⟩) (a.length + 2) c9) (a ++ gmarks) :=
      ⟨⟨Xl.ext (Ext.trans _ _ _ HX4.out HXV.out) hxz (by simp; exact HX4.out.below.size), (HO10.out.ext HXV.out).xl hxz (fun g e hm => by cases e; simp at hm; omega), by go_simp, by go_simp, by go_simp⟩, (HO9.out.ext HXV.out).xl hxz (fun g e hm => by cases e; simp at hm; omega)⟩
    have HST := hid_mk hst
    clear hst hxz
    go_wp2_with fail
    refine gen_callsK (fun Z => GtAt W Z (W4.heap.size) g10 c10 b rq ∧ OwEn Z W.heap.size (.slice (some ⟨g9, 0, none⟩) (a.length + 2) c9) (a ++ gmarks)) HST.out ?_
    rintro Z1 ⟨h1, h9⟩
    refine (rTwins_any a b _ _ br lf (HS.out.1.ext h1.x) (HS.out.2.ext h1.x)).mono ?_
    rintro e Z2 ⟨rfl, hx⟩
    rw [HTV.out]
    have HZ2 := hid_mk (h1.ext hx)
    have HQ9 := hid_mk (h9.ext hx)
    clear h1 h9 hx HST
    have c0 := HZ2.out.c0
    have c1 := HZ2.out.c1
    have c2 := HZ2.out.c2
    have cl := cell_lt c0
    go_wp2_with fail
    refine gen_callsK (fun Z => GtAt W Z (W4.heap.size) g10 c10 b rq ∧ OwEn Z W.heap.size (.slice (some ⟨g9, 0, none⟩) (a.length + 2) c9) (a ++ gmarks)) ⟨HZ2.out.ext (by (repeat (first | exact Ext.refl _ | apply Ext.drew_left | apply Ext.drew | apply Ext.alloc))), HQ9.out.ext (by (repeat (first | exact Ext.refl _ | apply Ext.drew_left | apply Ext.drew | apply Ext.alloc)))⟩ ?_
    rintro Z3 ⟨h3, h9⟩
    refine (ghStill_big h9 (HS.out.1.ext h3.x) HLL.out.1 h3.x.below.size).mono ?_
    rintro e Z4 ⟨rfl, hx⟩
    have HZ4 := hid_mk (h3.xl (g9 := g9) hx hg9.1 (by omega) (by omega))
    clear h3 h9 hx HZ2 HQ9
    clear c0 c1 c2 cl
    go_wp2_with fail
    refine (ghStill_big HZ4.out.o (HS.out.2.ext HZ4.out.x) HLL.out.2 HZ4.out.x.below.size).mono ?_
    rintro e Z5 ⟨rfl, hx⟩
    have HZ5 := hid_mk (HZ4.out.fin hx hg10.1 (by omega))
    clear hx HZ4
    cases iq with
    | false =>
      go_wp2
      go_ret
      exact ⟨rfl, HZ5.out.x⟩
    | true =>
      have HTW := hid_mk (HIQ.out rfl)
      have HI1 := hid_mk (inR_ok HTW.out.ma HTW.out.c)
      have HI2 := hid_mk (inR_ok HTW.out.mb HTW.out.c)
      obtain ⟨P, hP⟩ : ∃ P, inG rq a = P := ⟨_, rfl⟩
      obtain ⟨Q, hQ⟩ : ∃ Q, inG rq b = Q := ⟨_, rfl⟩
      have HTT := hid_mk (show decide ((P.length : Int) = (Q.length : Int) ∧ sum0 P = sum0 Q ∧ sum1 P = sum1 Q) = true from by rw [← hP, ← hQ]; exact HTW.out.t)
      have HTK := hid_mk (show chk2 P Q = 0 by rw [← hP, ← hQ]; exact HTW.out.k)
      have HTD := hid_mk (show 0 < (difR P Q).length by rw [← hP, ← hQ]; exact HTW.out.d)
      have hPl : P.length ≤ 256 := by rw [← hP]; exact Nat.le_trans (inF_len _ _ _ _) HTW.out.ma.n
      have hQl : Q.length ≤ 256 := by rw [← hQ]; exact Nat.le_trans (inF_len _ _ _ _) HTW.out.mb.n
      rw [hP] at HI1
      rw [hQ] at HI2
      clear hP hQ
      have c0 := HZ5.out.c0
      have c1 := HZ5.out.c1
      have c2 := HZ5.out.c2
      have cl := cell_lt c0
      go_wp2_with fail
      refine (mIn_any rq.lo rq.hi rq.op a _ (HS.out.1.ext HZ5.out.x) (by have := HTW.out.ma.n; omega)).mono ?_
      rintro e Z6 ⟨pv, rfl, ho, hx⟩
      rw [HI1.out.1]
      rw [HI1.out.2] at ho
      have HZ6 := hid_mk (HZ5.out.ext hx)
      have HPS := hid_mk (ho.sl (by omega))
      obtain ⟨pa, pc, rfl⟩ := own_form ho
      clear ho hx HZ5
      clear c0 c1 c2 cl
      have c0 := HZ6.out.c0
      have c1 := HZ6.out.c1
      have c2 := HZ6.out.c2
      have cl := cell_lt c0
      go_wp2_with fail
      refine (mIn_any rq.lo rq.hi rq.op b _ (HS.out.2.ext HZ6.out.x) (by have := HTW.out.mb.n; omega)).mono ?_
      rintro e Z7 ⟨qv, rfl, ho, hx⟩
      rw [HI2.out.1]
      rw [HI2.out.2] at ho
      have HZ7 := hid_mk (HZ6.out.ext hx)
      replace HPS := hid_mk (HPS.out.ext hx)
      have HQS := hid_mk (ho.sl (by omega))
      obtain ⟨qa, qc, rfl⟩ := own_form ho
      clear ho hx HZ6
      clear c0 c1 c2 cl
      go_wp2_with fail
      refine (mDiffer_any P Q _ _ HPS.out HQS.out (by omega) (by omega)).mono ?_
      rintro e Z8 ⟨dv, rfl, ho, hx⟩
      rw [HTK.out]
      have HZ8 := hid_mk (HZ7.out.ext hx)
      replace HPS := hid_mk (HPS.out.ext hx)
      replace HQS := hid_mk (HQS.out.ext hx)
      obtain ⟨da, dc, rfl⟩ := own_form ho
      have hdl : (0 : Int) < ((difR P Q).length : Int) := by have := HTD.out; omega
      obtain ⟨dn, hdn⟩ : ∃ dn, (difR P Q).length = dn := ⟨_, rfl⟩
      rw [hdn] at hdl ⊢
      clear ho hx HZ7 hdn
      go_wp2_with fail
      refine (tlAll_any P _ (HL.out.ext HZ8.out.x) HPS.out).mono ?_
      rintro e Z9 ⟨rfl, hx⟩
      have HZ9 := hid_mk (HZ8.out.ext hx)
      replace HQS := hid_mk (HQS.out.ext hx)
      clear hx HZ8
      go_wp2_with fail
      refine (tlAll_any Q _ (HL.out.ext HZ9.out.x) HQS.out).mono ?_
      rintro e ZA ⟨rfl, hx⟩
      have HZA := hid_mk (HZ9.out.ext hx)
      have htt := HTT.out
      clear hx HZ9
      go_wp2
      go_ret
      exact ⟨by first | rfl | (rw [htt]; rfl) | simp [htt], HZA.out.x⟩
end Go.Proofs.YtiimoaplhhnklaaDoor
namespace Go.Proofs.YtiimoaplhhnklaaDoor
open Go.RowKit Go.ChangeShapes Go.WideShapes Go.ChangeAt Go.Joins
set_option maxHeartbeats 4000000
set_option maxRecDepth 100000
set_option linter.unusedSimpArgs false
set_option linter.unusedVariables false

theorem cLane : Tryd.prog.cellsOf 94 = 3 := by kernel_rfl
theorem cU64 : Tryd.prog.cellsOf 36 = 1 := by kernel_rfl
theorem cIntL : Tryd.prog.cellsOf 3 = 1 := by kernel_rfl
theorem open_lane {W : World} {H : Type} {enc : TypeId × Value → H} {n : Nat} {cs : List Value} {x : DataW H × List MemPlace} {sp : Nat → Bool} {held : Bool} (h : DataW.trod enc Tryd.prog W 0 sp held n 94 cs = some x) :
    ∃ a b c : Int, cs = [.int .u64 a, .int .u64 b, .int .i64 c] ∧ x.1 = .agg [.lit (.int .u64 a), .lit (.int .u64 b), .lit (.int .i64 c)] := by
  obtain ⟨y0, y1, y2, m, hx, hl, h0, h1, h2⟩ := Go.Deep.trod_struct3 Tryd.underlying94 h
  obtain ⟨c0, c1, c2, rfl⟩ := list3 (hl.trans cLane)
  simp only [cU64, cIntL, List.drop_zero, List.drop_succ_cons, List.take_succ_cons, List.take_zero] at h0 h1 h2
  obtain ⟨a, e0, r0, -⟩ := DataW.trod_int Tryd.underlying36 h0
  obtain ⟨b, e1, r1, -⟩ := DataW.trod_int Tryd.underlying36 h1
  obtain ⟨c, e2, r2, -⟩ := DataW.trod_int Tryd.underlying3 h2
  simp at e0 e1 e2
  subst e0 e1 e2
  refine ⟨a, b, c, rfl, ?_⟩
  rw [hx, r0, r1, r2]
theorem lanes_laid {W : World} (h : laidMetH Tryd.prog [("tideline/mix.lanes", Rows.laid_tideline_mix_lanes)] W) : LanesAt W := by
  rw [MakeChecks.laidMetH_plain _ _ _ (by kernel_rfl)] at h
  obtain ⟨ps, ⟨g, t, cs, fuel, p, q, hg, ht, hv, hd, _, _⟩, _, _⟩ := h
  obtain rfl := Option.some.inj ((show Tryd.prog.globalNamed "tideline/mix.lanes" = some 0 by kernel_rfl).symm.trans hg)
  obtain rfl := Option.some.inj ((show (Tryd.prog.globals[0]?).map (·.type) = some 95 by kernel_rfl).symm.trans ht)
  obtain ⟨xs, m, _, ex, hcl, hl, hel⟩ := DataW.trod_array Tryd.underlying95 hd
  have k0 := hel 0 (by decide)
  have k1 := hel 1 (by decide)
  simp only [cLane, Nat.zero_mul, Nat.one_mul, List.drop_zero] at k0 k1
  obtain ⟨x0, x1, rfl⟩ : ∃ z0 z1, xs = [z0, z1] := by
    match xs, hl with
    | [z0, z1], _ => exact ⟨z0, z1, rfl⟩
  obtain ⟨a0, b0, c0, e0, r0⟩ := open_lane (x := x0) k0
  obtain ⟨a1, b1, c1, e1, r1⟩ := open_lane (x := x1) k1
  have ee := (Prod.mk.inj ex).1
  unfold Rows.laid_tideline_mix_lanes at ee
  simp only [List.map_cons, List.map_nil, r0, r1] at ee
  simp only [DataW.agg.injEq, List.cons.injEq, DataW.lit.injEq, Lit.int.injEq, true_and, and_true] at ee
  obtain ⟨⟨rfl, rfl, rfl⟩, rfl, rfl, rfl⟩ := ee
  have hc : ∀ i : Nat, cs.toList[i]? = ([.int .u64 2611923443488327891, .int .u64 11400714819323198485, .int .i64 29, .int .u64 1376283091369227076, .int .u64 14029467366897019727, .int .i64 32] : List Value)[i]? := fun i => by
    have : cs.toList = [.int .u64 2611923443488327891, .int .u64 11400714819323198485, .int .i64 29, .int .u64 1376283091369227076, .int .u64 14029467366897019727, .int .i64 32] := by
      have h6 : cs.toList.length = 6 := hcl.trans (show Tryd.prog.cellsOf 95 = 6 by kernel_rfl)
      match hcs : cs.toList, h6 with
      | [y0, y1, y2, y3, y4, y5], _ =>
        rw [hcs] at e0 e1
        simp at e0 e1
        obtain ⟨rfl, rfl, rfl⟩ := e0
        obtain ⟨rfl, rfl, rfl⟩ := e1
        rfl
    rw [this]
  have hw : ∀ i : Nat, W.cell? ⟨0, i, none⟩ = cs.toList[i]? := fun i => by
    rw [World.var?_cell hg hv i]
    simp
  exact ⟨(hw 0).trans (hc 0), (hw 1).trans (hc 1), (hw 2).trans (hc 2), (hw 3).trans (hc 3), (hw 4).trans (hc 4), (hw 5).trans (hc 5)⟩
end Go.Proofs.YtiimoaplhhnklaaDoor
