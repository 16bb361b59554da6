/- A row of rows of the call's own: one more behind it, two of them changed for each other. -/
import Derived.Test.YtgglbohcnlcagaaUA
import Derived.Test.YtgglbohcnlcagaaRowT
import Derived.Maps.AppendAt
import Derived.Deep.MidRow
namespace Go.Proofs.Ytgglbohcnlcagaa
open Go.RowKit
set_option maxHeartbeats 2000000
set_option maxRecDepth 100000
set_option linter.unusedSimpArgs false
set_option linter.unusedVariables false

def cR (r : R1) : List Value := [.string r.1, .int .i64 r.2.1, .int .u64 r.2.2.1, .int .u64 r.2.2.2]
theorem cR_len (r : R1) : (cR r).length = 4 := rfl
theorem rR_info : ∃ i z, Try.prog.info? 75 = some i ∧ i.size = 4 ∧ i.bytes = 40 ∧ i.zero = some z ∧ z.cells.size = 4 := ⟨_, _, rfl, rfl, rfl, rfl, rfl⟩
def OwnR (w : World) (B : Nat) (v : Value) (M : List R1) : Prop := w.ownsRow B 75 4 v M.length (M.flatMap cR)
theorem radd_flat {b o j : Nat} : (⟨b, o, none⟩ : Addr).add j = ⟨b, o + j, none⟩ := by
  unfold Addr.add
  split
  · rename_i h; subst h; rfl
  · rfl
theorem appendR_one {w : World} {B : Nat} {v : Value} {M : List R1} (hown : OwnR w B v M) {b c : Nat} {r : R1} (hc : ∀ j u, (cR r)[j]? = some u → w.cell? ⟨b, j, none⟩ = some u) (hn : M.length + 1 ≤ 3000000000000) (hB : B ≤ w.heap.size) :
    ∃ v' w', (Builtin.append_ #[55, 55] 55 #[v, .slice (some ⟨b, 0, none⟩) 1 c]).run Try.prog w = .ok v' w' ∧ OwnR w' B v' (M ++ [r]) ∧ w.grownBy w' v.ownBlock := by
  obtain ⟨i, z, hinf, hs, hby, hz, hcc⟩ := rR_info
  obtain ⟨v', w', h1, h2, h3, h4, h5⟩ := run_append_own_at (P := Try.prog) w B 55 55 75 i z 4 40 Try.underlying55 hinf hz hs hby hcc (by omega) v M.length (M.flatMap cR) hown ⟨b, 0, none⟩ 1 c (cR r) rfl
    (fun j u hj => by rw [radd_flat, Nat.zero_add]; exact hc j u hj)
    (by intro u hu; simp [cR] at hu; rcases hu with rfl | rfl | rfl | rfl <;> rfl) (by unfold maxLen; omega) (by omega) hB
  refine ⟨v', w', h1, ?_, h3⟩
  unfold OwnR
  rw [List.length_append, List.flatMap_append]
  simpa using h2
/-- Rows that may be written. -/
structure MineAt (w : World) (g : Nat) (M : List R1) : Prop where
  rows : RowsAt w g 0 M
  fz : ∀ o, w.frozen? ⟨g, o, none⟩ = false
theorem ownR_mine {w : World} {B : Nat} {v : Value} {M : List R1} (h : OwnR w B v M) (hp : 0 < M.length) : ∃ g c, v = .slice (some ⟨g, 0, none⟩) M.length c ∧ B ≤ g ∧ M.length ≤ c ∧ MineAt w g M := by
  obtain ⟨g, c, hv, hc⟩ := own_cell h hp
  have k0 : ∀ k, (hk : k < M.length) → ∀ r, r < 4 → ∀ u, (cR M[k])[r]? = some u → w.cell? ⟨g, k * 4 + r, none⟩ = some u := fun k hk r hr u hu => hc _ _ ((flat_get cR 4 (by omega) cR_len M k hk r hr).trans hu)
  rcases h.2 with ⟨h1, -⟩ | ⟨g', cap, cur, h1, h2, h3, h4, -⟩
  · rw [hv] at h1; cases h1
  · rw [hv] at h1; cases h1
    refine ⟨g, c, hv, h2, h4, ⟨fun i hi => ?_, fun o => by simp [World.frozen?, h3]⟩⟩
    rw [Nat.zero_add]
    exact ⟨k0 i hi 0 (by omega) _ rfl, k0 i hi 1 (by omega) _ rfl, k0 i hi 2 (by omega) _ rfl, k0 i hi 3 (by omega) _ rfl⟩
/-- A row is written. -/
def putRow (w : World) (g i : Nat) (r : R1) : World := (((w.setCell ⟨g, i * 4, none⟩ (.string r.1)).setCell ⟨g, i * 4 + 1, none⟩ (.int .i64 r.2.1)).setCell ⟨g, i * 4 + 2, none⟩ (.int .u64 r.2.2.1)).setCell ⟨g, i * 4 + 3, none⟩ (.int .u64 r.2.2.2)
theorem MineAt.put {w : World} {g i : Nat} {M : List R1} {r : R1} (h : MineAt w g M) (hi : i < M.length) : MineAt (putRow w g i r) g (M.set i r) := by
  refine ⟨fun k hk => ?_, fun o => tset_fz (tset_fz (tset_fz (tset_fz (h.fz o))))⟩
  have hk' : k < M.length := by simpa using hk
  obtain ⟨h0, h1, h2, h3⟩ := h.rows k hk'
  obtain ⟨g0, g1, g2, g3⟩ := h.rows i hi
  rw [Nat.zero_add] at *
  unfold putRow
  by_cases e : i = k
  · subst e
    simp only [List.getElem_set_self]
    exact ⟨(tset_neo (by omega)).trans ((tset_neo (by omega)).trans ((tset_neo (by omega)).trans (tset_eq g0))), (tset_neo (by omega)).trans ((tset_neo (by omega)).trans (tset_eq ((tset_neo (by omega)).trans g1))),
      (tset_neo (by omega)).trans (tset_eq ((tset_neo (by omega)).trans ((tset_neo (by omega)).trans g2))), tset_eq ((tset_neo (by omega)).trans ((tset_neo (by omega)).trans ((tset_neo (by omega)).trans g3)))⟩
  · rw [List.getElem_set_ne e]
    exact ⟨(tset_neo (by omega)).trans ((tset_neo (by omega)).trans ((tset_neo (by omega)).trans ((tset_neo (by omega)).trans h0))), (tset_neo (by omega)).trans ((tset_neo (by omega)).trans ((tset_neo (by omega)).trans ((tset_neo (by omega)).trans h1))),
      (tset_neo (by omega)).trans ((tset_neo (by omega)).trans ((tset_neo (by omega)).trans ((tset_neo (by omega)).trans h2))), (tset_neo (by omega)).trans ((tset_neo (by omega)).trans ((tset_neo (by omega)).trans ((tset_neo (by omega)).trans h3)))⟩
theorem setCells_putRow {w : World} {g i : Nat} {r : R1} : w.setCells g (i * 4) [.string r.1, .int .i64 r.2.1, .int .u64 r.2.2.1, .int .u64 r.2.2.2] = putRow w g i r := rfl
theorem MineAt.there {w : World} {g i : Nat} {M : List R1} (h : MineAt w g M) (hi : i < M.length) : w.there g (i * 4) 4 := by
  obtain ⟨h0, h1, h2, h3⟩ := h.rows i hi
  rw [Nat.zero_add] at *
  intro j hj
  refine ⟨?_, h.fz _⟩
  rcases j with _ | _ | _ | _ | j
  · rw [Nat.add_zero, h0]; rfl
  · rw [h1]; rfl
  · rw [h2]; rfl
  · rw [h3]; rfl
  · omega
theorem one4 (r : R1) : (#[.string r.1, .int .i64 r.2.1, .int .u64 r.2.2.1, .int .u64 r.2.2.2] : Array Value).all (·.oneCell') = true := by simp [Value.oneCell']
theorem ext_set {w w' : World} (h : Ext w w') {b o : Nat} {u : Value} (hp : w.heap.size ≤ b) : Ext w (w'.setCell ⟨b, o, none⟩ u) := Ext.of (Below.setCell h.below hp u)
theorem ext_putRow {w w' : World} (h : Ext w w') {g i : Nat} {r : R1} (hp : w.heap.size ≤ g) : Ext w (putRow w' g i r) := ext_set (ext_set (ext_set (ext_set h hp) hp) hp) hp
theorem xset_row {w : World} {g i : Nat} {r : R1} : Xt (some g) w (putRow w g i r) := Xt.trans _ _ _ (Xt.trans _ _ _ (Xt.trans _ _ _ Xt.setAt Xt.setAt) Xt.setAt) Xt.setAt
theorem swap_perm {M : List R1} {i k : Nat} (hi : i < M.length) (hk : k < M.length) : ((M.set i M[k]).set k M[i]).Perm M := List.set_set_perm hi hk
def IntsAt (w : World) (b o : Nat) (P : List Int) : Prop := ∀ i, (h : i < P.length) → w.cell? ⟨b, o + i, none⟩ = some (.int .i64 P[i])
def IntsSl (w : World) (v : Value) (P : List Int) : Prop := ∃ a c, v = .slice a P.length c ∧ P.length ≤ c ∧ P.length ≤ 140737488351232 ∧ (∀ x ∈ P, -9223372036854775808 ≤ x ∧ x ≤ 9223372036854775807) ∧ (0 < P.length → ∃ b o, a = some ⟨b, o, none⟩ ∧ IntsAt w b o P)
theorem MineAt.xt {w w' : World} {g : Nat} {M : List R1} (h : MineAt w g M) (hl : g < w.heap.size) (hx : Ext w w') : MineAt w' g M := by
  refine ⟨h.rows.xt (Xt.of hx : Xt none _ _) (by simp), fun o => ?_⟩
  rw [(Xt.of hx : Xt none _ _).hf g o hl (by simp)]
  exact h.fz o
theorem MineAt.sl {w : World} {g c : Nat} {M : List R1} (h : MineAt w g M) (hc : M.length ≤ c) (hl : M.length ≤ 4398046511104) : RowsSl w (.slice (some ⟨g, 0, none⟩) M.length c) M := ⟨_, _, rfl, hc, hl, fun _ => ⟨g, 0, rfl, h.rows⟩⟩
end Go.Proofs.Ytgglbohcnlcagaa
