/-
  slices.Clone of places; copied; Volume.
-/
import Derived.Test.YtdhhddifmkijhaaGreatIdxI
namespace Go.Proofs.YtdhhddifmkijhaaGreat
open Go.RowKit Go.ChangeMaps Go.Maps Go.WideShapes Go.WideMaps Go.WideElems Go.MapKept Go.ChangeShapes

theorem oneCell_locs (l : List (Int × Int)) : ∀ u, u ∈ l.flatMap locV → u.oneCell' = true := by
  intro u hu
  obtain ⟨p, -, hp⟩ := List.mem_flatMap.1 hu
  exact one_cells2 (P := fun u => u.oneCell' = true) (a := .int .i64 p.1) (b := .int .i64 p.2) rfl rfl u hp
set_option maxHeartbeats 4000000 in
set_option maxRecDepth 20000 in
theorem iclone (l : List (Int × Int)) (lv : Value) (B : Nat) (w : World) (hl : LocsAt B w lv l) (h0 : 0 < l.length) (hz : l.length ≤ 1000) :
    Calls Tryz.prog 72 #[lv] w fun e w' => ∃ av cv, e = .returned (.slice av l.length cv) ∧ w'.ownsRow w.heap.size 88 2 (.slice av l.length cv) l.length (l.flatMap locV) ∧ Kp [] w w' := by
  obtain ⟨la, lc, rfl⟩ := slice_ex hl
  obtain ⟨b, o, rfl, hc, -, hb, hcell⟩ := hl.cells h0
  obtain ⟨i0, hi, hz0, hz1, hz2⟩ := info_parts Tryz.info88
  have hK := Kp.refl [] w
  have hq : (binOp .eql 34 (.slice (some ⟨b, o, none⟩) l.length lc) (.slice none 0 0)).run Tryz.prog w = .ok (.bool false) w := Lib.run_eql_slice_nil w _ _ (some ⟨b, o, none⟩) l.length lc 0 0 Tryz.underlying34
  have hown : (w.alloc (.cells #[] 88)).ownsRow w.heap.size 88 2 (.slice (some ⟨w.heap.size, 0, none⟩) 0 0) 0 [] :=
    ⟨rfl, .inr ⟨w.heap.size, 0, #[], rfl, Nat.le_refl _, block_new _ _, by decide, by unfold maxLen; omega, rfl, rfl⟩⟩
  have hnews : ∀ (j : Nat) (u : Value), (l.flatMap locV)[j]? = some u → (w.alloc (.cells #[] 88)).cell? ((⟨b, o, none⟩ : Addr).add j) = some u := by
    intro j u hu
    rw [Addr.add_lit]
    exact Kp.cellAt (X := []) (hcell j u hu) (by simp) _ ((Kp.refl _ _).alloc _)
  go_enter Tryz.func72, Tryz.ntmps72
  go_wp2_with (first | (at_builtin; refine wpList_append_mine _ rfl (.tmp 5) (.tmp 6) 34 rfl w.heap.size 88 i0 (.agg #[.int .i64 0, .int .i64 0]) 2 16 Tryz.underlying34 hi hz0 hz1 hz2 rfl (by decide) (.slice (some ⟨w.heap.size, 0, none⟩) 0 0) 0 [] rfl hown ⟨b, o, none⟩ l.length lc (l.flatMap locV) rfl (locV_len l) hnews (oneCell_locs l) (by unfold maxLen; omega) (by omega) (by simp) ?_))
  intro v' w3 hown' hkp _ _
  obtain ⟨av', cv', rfl⟩ := ownsRow_ex hown'
  have hk : Kp [] w w3 := ((Kp.refl [] w).alloc _).step hkp (fun i hi hm => by
    simp [Value.ownBlock] at hm
    omega)
  clear hkp
  go_wp2_with fail
  go_ret
  exact ⟨av', cv', rfl, hown', hk⟩
theorem LocsIn.copy {X : List Nat} {w : World} {base : Nat} {av : Option Addr} {cv : Nat} {l : List (Int × Int)} (h : w.ownsRow base 88 2 (.slice av l.length cv) l.length (l.flatMap locV)) (hx : ∀ i ∈ X, i < base) : LocsIn X w (.slice av l.length cv) l := LocsIn.of_owns rfl h hx
set_option maxRecDepth 20000 in
theorem ret4_iCopied (t : Array Value) (Z : World) (R : Nat) {v0 v1 v2 v3 : Value} (h2 : t.getD 2 undef = .pointer (some ⟨R, 0, none⟩)) (z0 : Z.cell? ⟨R, 0, none⟩ = some v0) (z1 : Z.cell? ⟨R, 1, none⟩ = some v1) (z2 : Z.cell? ⟨R, 2, none⟩ = some v2) (z3 : Z.cell? ⟨R, 3, none⟩ = some v3) :
    (results Tryz.f49 t).run Tryz.prog Z = .ok (.agg #[v0, v1, v2, v3]) Z := by
  have h2' : t[2]?.getD undef = .pointer (some ⟨R, 0, none⟩) := by rw [← h2]; simp [Array.getD_eq_getD_getElem?]
  simp [results, Tryz.results49, go_sem, z0, z1, z2, z3, h2']
  try rfl
theorem read4 {W : World} {b : Nat} {t : TypeId} {v0 v1 v2 v3 : Value} (h : W.heap[b]? = some (.cells #[v0, v1, v2, v3] t (0, 0))) : W.cell? ⟨b, 0, none⟩ = some v0 ∧ W.cell? ⟨b, 1, none⟩ = some v1 ∧ W.cell? ⟨b, 2, none⟩ = some v2 ∧ W.cell? ⟨b, 3, none⟩ = some v3 :=
  ⟨cell_of_cells h rfl, cell_of_cells h rfl, cell_of_cells h rfl, cell_of_cells h rfl⟩
set_option maxHeartbeats 4000000 in
set_option maxRecDepth 20000 in
theorem icopied (v : VolD) (lv : Value) (B : Nat) (w : World) (hl : LocsAt B w lv v.locs) (h0 : 0 < v.locs.length) (hz : v.locs.length ≤ 1000) :
    Calls Tryz.prog 49 #[.agg (VolVA v lv)] w fun e w' => ∃ av cv, e = .returned (.agg (VolVA v (.slice av v.locs.length cv))) ∧ w'.ownsRow w.heap.size 88 2 (.slice av v.locs.length cv) v.locs.length (v.locs.flatMap locV) ∧ Kp [] w w' := by
  obtain ⟨x0, x1, x2, ls⟩ := v
  simp only at hl h0 hz
  simp only [VolVA]
  obtain ⟨la, lc, rfl⟩ := slice_ex hl
  obtain ⟨w0, hw0⟩ : ∃ w0, w0 = w.alloc (.cells #[.int .i64 x0, .int .i64 x1, .int .i64 x2, .slice la ls.length lc] 36) := ⟨_, rfl⟩
  have k0 : Kp [] w w0 := hw0 ▸ (Kp.refl _ _).alloc _
  have b0 : w0.heap[w.heap.size]? = some (.cells #[.int .i64 x0, .int .i64 x1, .int .i64 x2, .slice la ls.length lc] 36 (0, 0)) := by rw [hw0]; exact block_new _ _
  have s0 : w.heap.size + 1 = w0.heap.size := by rw [hw0, World.size_alloc]
  obtain ⟨w1, hw1⟩ : ∃ w1, w1 = w0.alloc (.cells #[.int .i64 0, .int .i64 0, .int .i64 0, .slice none 0 0] 36) := ⟨_, rfl⟩
  have k1 : Kp [] w0 w1 := hw1 ▸ (Kp.refl _ _).alloc _
  have b1 : w1.heap[w0.heap.size]? = some (.cells #[.int .i64 0, .int .i64 0, .int .i64 0, .slice none 0 0] 36 (0, 0)) := by rw [hw1]; exact block_new _ _
  have s1 : w1.heap.size = w0.heap.size + 1 := by rw [hw1, World.size_alloc]
  have b01 := (k1.block _ (lt_of_block b0) (by simp)).trans b0
  obtain ⟨b, hb⟩ : ∃ b, b = w0.heap.size := ⟨_, rfl⟩
  rw [← hb] at b1 s0 s1
  obtain ⟨y0, y1, y2, y3⟩ := read4 b01
  have Hw0 := Lib.hid hw0
  have Hw1 := Lib.hid hw1
  have S0 := Lib.hid s0
  have S1 := Lib.hid s1
  have HB := Lib.hid hb
  clear hw0 hw1 s0 s1 hb
  go_enter Tryz.func49, Tryz.ntmps49
  go_wp2_with fail
  rw [← Hw0.out, ← Hw1.out, S0.out]
  refine (iclone ls (.slice la ls.length lc) B w1 (hl.keep0 (k0.trans k1)) h0 hz).mono ?_
  rintro e w2 ⟨av, cv, rfl, hO, k2⟩
  have b02 := (k2.block _ (lt_of_block b01) (by simp)).trans b01
  have b12 := (k2.block _ (lt_of_block b1) (by simp)).trans b1
  have f0 := frozen_of_cells b02
  have f1 := frozen_of_cells b12
  clear y0 y1 y2 y3
  have hne : ¬ b = w.heap.size := by have := S0.out; omega
  have hne' : ¬ w.heap.size = b := fun e => hne e.symm
  obtain ⟨y0, y1, y2, y3⟩ := read4 b02
  obtain ⟨z0, z1, z2, z3⟩ := read4 b12
  go_wp2_with fail
  obtain ⟨W, hW⟩ : ∃ W, W = w2.setCell ⟨w.heap.size, 3, none⟩ (.slice av ls.length cv) := ⟨_, rfl⟩
  have kW : Kp [w.heap.size] w2 W := hW ▸ (Kp.refl _ _).setCell (.inl (by simp)) _
  have bW : W.heap[b]? = some (.cells #[.int .i64 0, .int .i64 0, .int .i64 0, .slice none 0 0] 36 (0, 0)) := (kW.block _ (lt_of_block b12) (by simpa using hne)).trans b12
  rw [← hW]
  obtain ⟨Z, hZ⟩ : ∃ Z, Z = (((W.setCell ⟨b, 0, none⟩ (.int .i64 x0)).setCell ⟨b, 1, none⟩ (.int .i64 x1)).setCell ⟨b, 2, none⟩ (.int .i64 x2)).setCell ⟨b, 3, none⟩ (.slice av ls.length cv) := ⟨_, rfl⟩
  have hz : Z.heap[b]? = some (.cells #[.int .i64 x0, .int .i64 x1, .int .i64 x2, .slice av ls.length cv] 36 (0, 0)) := by
    rw [hZ, block_setCell (block_setCell (block_setCell (block_setCell bW 0 _) 1 _) 2 _) 3 _]
    rfl
  have kZ : Kp [b] W Z := hZ ▸ ((((Kp.refl _ _).setCell (.inl (by simp)) _).setCell (.inl (by simp)) _).setCell (.inl (by simp)) _).setCell (.inl (by simp)) _
  have hkz : Kp [] w Z := (((k0.trans k1).trans k2).step kW (fun i hi hm => by simp only [List.mem_singleton] at hm; omega)).step kZ (fun i hi hm => by have := S0.out; simp only [List.mem_singleton] at hm; omega)
  have hOz := ownsRow_keep (ownsRow_keep hO kW (fun i hi => by have := S0.out; have := S1.out; simp; omega)) kZ (fun i hi => by have := S1.out; simp; omega)
  rw [← hZ]
  have HZ := Lib.hid hZ
  clear hZ
  obtain ⟨v0, v1, v2, v3⟩ := read4 hz
  exact bodyPost_ret (ret4_iCopied _ _ b (by kernel_rfl) v0 v1 v2 v3) rfl ⟨av, cv, rfl, ownsRow_base hOz (by have := S0.out; have := S1.out; omega), hkz⟩
/-- nine places -/
theorem vol_nine {v : VolD} (h : volOk v = true) : v.locs.length = 9 := by
  unfold volOk at h
  simp only [Bool.and_eq_true, decide_eq_true_eq] at h
  exact h.2.1.2
set_option maxRecDepth 20000 in
theorem ret4_iVolume (t : Array Value) (Z : World) (R : Nat) (e : Int) {v0 v1 v2 v3 : Value} (h2 : t.getD 4 undef = .pointer (some ⟨R, 0, none⟩)) (h3 : t.getD 5 undef = .int .i64 e) (z0 : Z.cell? ⟨R, 0, none⟩ = some v0) (z1 : Z.cell? ⟨R, 1, none⟩ = some v1) (z2 : Z.cell? ⟨R, 2, none⟩ = some v2) (z3 : Z.cell? ⟨R, 3, none⟩ = some v3) :
    (results Tryz.f44 t).run Tryz.prog Z = .ok (.tuple #[.agg #[v0, v1, v2, v3], .int .i64 e]) Z := by
  have h2' : t[4]?.getD undef = .pointer (some ⟨R, 0, none⟩) := by rw [← h2]; simp [Array.getD_eq_getD_getElem?]
  have h3' : t[5]?.getD undef = .int .i64 e := by rw [← h3]; simp [Array.getD_eq_getD_getElem?]
  simp [results, Tryz.results44, go_sem, z0, z1, z2, z3, h2', h3']
  try rfl
set_option maxHeartbeats 4000000 in
set_option maxRecDepth 20000 in
theorem ivolume {I : Ib} {x : Ix} (hf : Fit x) (id : Int) (hd : (Lit.int .i64 id).wf = true) (w : World) (h : IxAt I w x) : Calls Tryz.prog 44 #[I.p, .int .i64 id] w fun e w' => ∃ lv, e = .returned (.tuple #[.agg (VolVA (x.vol id).1 lv), .int .i64 (x.vol id).2]) ∧ LocsAt w'.heap.size w' lv (x.vol id).1.locs ∧ Kp [] w w' := by
  obtain ⟨w1, hw1⟩ : ∃ w1, w1 = w.alloc (.cells #[.int .i64 0, .int .i64 0, .int .i64 0, .slice none 0 0] 36) := ⟨_, rfl⟩
  have kr : Kp [] w w1 := hw1 ▸ (Kp.refl _ _).alloc _
  have br : w1.heap[w.heap.size]? = some (.cells #[.int .i64 0, .int .i64 0, .int .i64 0, .slice none 0 0] 36 (0, 0)) := by rw [hw1]; exact block_new _ _
  have s1 : w1.heap.size = w.heap.size + 1 := by rw [hw1, World.size_alloc]
  have h1 := h.keep0 kr
  obtain ⟨-, -, c2, -, -⟩ := h1.cells
  obtain ⟨lv, hlv, l1, -⟩ := look_vol h1 hf hd
  obtain ⟨⟨⟨x0, x1, x2, ls⟩, er⟩, hn⟩ : ∃ n, n = x.vol id := ⟨_, rfl⟩
  rw [← hn] at l1 hlv
  rw [← hn]
  simp only [VolVA] at l1 ⊢
  simp only at hlv
  have hla := hlv.at
  obtain ⟨la, lc, rfl⟩ := slice_ex hla
  cases hb : aGet id x.V with
  | none =>
    unfold Ix.vol at hn
    rw [hb] at hn
    cases hn
    rw [hb] at l1
    clear hb hla
    subst hw1
    go_enter Tryz.func44, Tryz.ntmps44
    go_wp2_with fail
    obtain ⟨Z, hZ⟩ : ∃ Z, Z = (w.alloc (.cells #[.int .i64 0, .int .i64 0, .int .i64 0, .slice none 0 0] 36)).alloc (.cells #[.int .i64 0, .int .i64 0, .int .i64 0, .slice la 0 lc] 36) := ⟨_, rfl⟩
    have hz : Z.heap[w.heap.size]? = some (.cells #[.int .i64 0, .int .i64 0, .int .i64 0, .slice none 0 0] 36 (0, 0)) := by rw [hZ]; exact block_alloc (block_new _ _) _
    have hkz : Kp [] w Z := hZ ▸ ((Kp.refl _ _).alloc _).alloc _
    rw [← hZ]
    have HZ := Lib.hid hZ
    clear hZ
    obtain ⟨z0, z1, z2, z3⟩ := read4 hz
    exact bodyPost_ret (ret4_iVolume _ _ w.heap.size _ (by kernel_rfl) (by kernel_rfl) z0 z1 z2 z3) rfl ⟨.slice none 0 0, rfl, nil_locs _ _, hkz⟩
  | some n =>
    unfold Ix.vol at hn
    rw [hb] at hn
    cases hn
    rw [hb] at l1
    have hvo := (hf.vols _ (aGet_mem hb)).2.2
    have h9 := vol_nine hvo
    simp only at h9
    have H9 := Lib.hid h9
    clear hb h9
    have h12 : ∀ o, LocsAt w1.heap.size (w1.alloc o) (.slice la ls.length lc) ls := fun o => hla.keep0 ((Kp.refl _ _).alloc o)
    have hbr : ∀ o W, Kp [] (w1.alloc o) W → W.heap[w.heap.size]? = some (.cells #[.int .i64 0, .int .i64 0, .int .i64 0, .slice none 0 0] 36 (0, 0)) := fun o W k => (k.block _ (by simp [World.size_alloc]; omega) (by simp)).trans (block_alloc br o)
    have hs2 : ∀ o, (w1.alloc o).heap.size = w.heap.size + 2 := fun o => by rw [World.size_alloc, s1]
    subst hw1
    go_enter Tryz.func44, Tryz.ntmps44
    go_wp2_with fail
    refine (icopied ⟨x0, x1, x2, ls⟩ (.slice la ls.length lc) _ _ (h12 _) (by have := H9.out; simp only; omega) (by have := H9.out; simp only; omega)).mono ?_
    rintro e w3 ⟨av, cv, rfl, hO, k3⟩
    simp only [VolVA]
    simp only at hO
    rw [hs2] at hO
    have b3 := hbr _ _ k3
    have hk3 : Kp [] w w3 := ((kr.alloc _).trans k3)
    have f0 := frozen_of_cells b3
    obtain ⟨y0, y1, y2, y3⟩ := read4 b3
    clear hbr k3 h12
    go_wp2_with fail
    obtain ⟨Z, hZ⟩ : ∃ Z, Z = (((w3.setCell ⟨w.heap.size, 0, none⟩ (.int .i64 x0)).setCell ⟨w.heap.size, 1, none⟩ (.int .i64 x1)).setCell ⟨w.heap.size, 2, none⟩ (.int .i64 x2)).setCell ⟨w.heap.size, 3, none⟩ (.slice av ls.length cv) := ⟨_, rfl⟩
    have hz : Z.heap[w.heap.size]? = some (.cells #[.int .i64 x0, .int .i64 x1, .int .i64 x2, .slice av ls.length cv] 36 (0, 0)) := by
      rw [hZ, block_setCell (block_setCell (block_setCell (block_setCell b3 0 _) 1 _) 2 _) 3 _]
      rfl
    have kZ : Kp [w.heap.size] w3 Z := hZ ▸ ((((Kp.refl _ _).setCell (.inl (by simp)) _).setCell (.inl (by simp)) _).setCell (.inl (by simp)) _).setCell (.inl (by simp)) _
    have hkz : Kp [] w Z := hk3.step kZ (fun i hi hm => by simp only [List.mem_singleton] at hm; omega)
    have hOz := ownsRow_keep hO kZ (fun i hi => by simp; omega)
    rw [← hZ]
    have HZ := Lib.hid hZ
    clear hZ
    obtain ⟨z0, z1, z2, z3⟩ := read4 hz
    exact bodyPost_ret (ret4_iVolume _ _ w.heap.size _ (by kernel_rfl) (by kernel_rfl) z0 z1 z2 z3) rfl ⟨_, rfl, SliceAt.of_owns hOz, hkz⟩
end Go.Proofs.YtdhhddifmkijhaaGreat
