/-
  Volumes: all of them, by their IDs.
-/
import Derived.Test.YtdhhddifmkijhaaGreatP4
import Derived.Lib.SlKeysI
namespace Go.Proofs.YtdhhddifmkijhaaGreat
open Go.RowKit Go.ChangeMaps Go.Maps Go.WideShapes Go.WideMaps Go.WideElems Go.MapKept Go.ChangeShapes Go.Sort

/-- the IDs, rising -/
def Ix.ids (x : Ix) : List Int := (x.V.map (·.1)).mergeSort leI
/-- the volumes, by their IDs -/
def Ix.volumes (x : Ix) : List VolD := x.ids.map fun id => (x.vol id).1
/-- the sorted keys of the volumes' map -/
theorem sorted_vols {x : Ix} (hf : Fit x) {w : World} {b : Nat} {VS : List (Int × VolD × Value)} (hv : VS.map volP = x.V) (hm : MapK (Value.int .i64) w b (VS.map volF)) (hz : x.V.length ≤ 1000) (Bm : Nat) (hBm : Bm < w.heap.size) (hc : w.cell? ⟨Bm, 0, none⟩ = some (.map (some b))) :
    Calls Tryz.prog 47 #[.func (.func 71) #[] #[.pointer (some ⟨Bm, 0, none⟩)]] w fun e W' => ∃ av cv, e = .returned (.slice av x.ids.length cv) ∧ W'.ownsRow w.heap.size 3 1 (.slice av x.ids.length cv) x.ids.length (x.ids.map (Value.int .i64)) ∧ Kp [] w W' := by
  have hl : (VS.map volF).length = x.V.length := by rw [← hv, List.length_map, List.length_map]
  have hst := stopsI (H := Value) Fence.wide 2 trivial rfl (by omega) Bm b _ (datV VS) w hBm hc (vols_own hf hv hm hz)
  have hsz : Maps.size (datV VS) ≤ 1000 := by unfold datV; rw [datOf_size, hl]; exact hz
  have hb : ∀ xs, AllK litI (datV VS) xs → xs.length ≤ 1000 := fun xs hx => by
    rw [(allk_vols hf hv hm hx).length_eq, List.length_map]; exact hz
  refine (sortedI 71 _ (enters_of Tryz.func71 (by kernel_rfl) rfl) _ _ _ hsz hb w hst).mono ?_
  rintro e W' ⟨v, xs, rfl, hS, hrow, hk⟩
  have hp := allk_vols hf hv hm hS
  have he : (xs.mergeSort fun x y => decide (x ≤ y)) = x.ids := mergeSort_of_perm_i hp
  have hlen : xs.length = x.ids.length := by rw [← he, List.length_mergeSort]
  rw [he, hlen] at hrow
  obtain ⟨av, cv, rfl⟩ := ownsRow_ex hrow
  exact ⟨av, cv, rfl, hrow, hk⟩
/-- a row of one's own is kept where its block is -/
theorem owns_other {W W' : World} {base : Nat} {e : TypeId} {sz n : Nat} {v : Value} {xs : List Value} (h : W.ownsRow base e sz v n xs) {Y : List Nat} (k : Kp Y W W') (hy : ∀ g, v.ownBlock = some g → g ∉ Y) : W'.ownsRow base e sz v n xs := by
  obtain ⟨hl, ⟨hv, hn⟩ | ⟨g, cap, cur, hv, hg, hb, hc, hm, hs, ht⟩⟩ := h
  · exact ⟨hl, .inl ⟨hv, hn⟩⟩
  · exact ⟨hl, .inr ⟨g, cap, cur, hv, hg, (k.block g (lt_of_block hb) (hy g (by rw [hv]; rfl))).trans hb, hc, hm, hs, ht⟩⟩
/-- rows of other types lie in other blocks -/
theorem owns_apart {W : World} {b1 b2 : Nat} {e1 e2 : TypeId} {s1 s2 n1 n2 : Nat} {v1 v2 : Value} {x1 x2 : List Value} (h1 : W.ownsRow b1 e1 s1 v1 n1 x1) (h2 : W.ownsRow b2 e2 s2 v2 n2 x2) (he : e1 ≠ e2) : ∀ g, v1.ownBlock = some g → g ∉ v2.ownBlock.toList := by
  intro g hg hm
  rw [Option.mem_toList] at hm
  obtain ⟨-, ⟨hv, -⟩ | ⟨g1, c1, cur1, hv1, -, hb1, -⟩⟩ := h1
  · rw [hv] at hg; cases hg
  · obtain ⟨-, ⟨hv, -⟩ | ⟨g2, c2, cur2, hv2, -, hb2, -⟩⟩ := h2
    · rw [hv] at hm; cases hm
    · rw [hv1] at hg
      rw [hv2] at hm
      have e1' : g1 = g := by simpa [Value.ownBlock] using hg
      have e2' : g2 = g := by simpa [Value.ownBlock] using hm
      subst e1'
      subst e2'
      rw [hb1] at hb2
      simp only [Option.some.injEq, Obj.cells.injEq] at hb2
      exact he hb2.2.1
theorem mem_ids {x : Ix} {d : Int} : d ∈ x.ids ↔ d ∈ x.V.map (·.1) := by unfold Ix.ids; exact List.mem_mergeSort
theorem vol_some {x : Ix} (hf : Fit x) {d : Int} (hd : d ∈ x.V.map (·.1)) : volOk (x.vol d).1 = true ∧ 0 ≤ d ∧ d ≤ 1099511627776 := by
  obtain ⟨p, hp, rfl⟩ := List.mem_map.1 hd
  have h1 := hf.vols p hp
  refine ⟨?_, h1.1, h1.2.1⟩
  unfold Ix.vol
  cases hg : aGet p.1 x.V with
  | some v => exact (hf.vols _ (aGet_mem hg)).2.2
  | none =>
    exfalso
    have : ∀ l : List (Int × VolD), p ∈ l → aGet p.1 l ≠ none := by
      intro l
      induction l with
      | nil => intro h; cases h
      | cons q r ih =>
        intro h
        unfold aGet
        split
        · simp
        · rename_i hne
          rcases List.mem_cons.1 h with rfl | h
          · exact absurd rfl hne
          · exact ih h
    exact this _ hp hg
set_option maxHeartbeats 4000000 in
set_option maxRecDepth 20000 in
theorem ivolumes {I : Ib} {x : Ix} (hf : Fit x) (hz : x.V.length ≤ 1000) (w : World) (h : IxAt I w x) : Calls Tryz.prog 22 #[I.p] w fun e w' => ∃ v, e = .returned v ∧ OldsAt I.X w.heap.size w' v x.volumes ∧ Kp [] w w' := by
  obtain ⟨VS, hVS, hm, hls⟩ := h.vols
  obtain ⟨c0, c1, c2, c3, c4⟩ := h.cells
  have kB : Kp [] w (w.alloc (.cells #[.map (some I.v)] 67)) := (Kp.refl _ _).alloc _
  obtain ⟨w0, hw0⟩ : ∃ w0, w0 = w.alloc (.cells #[.map (some I.v)] 67) := ⟨_, rfl⟩
  rw [← hw0] at kB
  have hcm : w0.cell? ⟨w.heap.size, 0, none⟩ = some (.map (some I.v)) := by rw [hw0]; exact cell_of_cells (block_new _ _) rfl
  have hlt0 : w.heap.size < w0.heap.size := by rw [hw0, World.size_alloc]; exact Nat.lt_succ_self _
  have hm0 := hm.keep kB (by simp)
  have hsv := sorted_vols hf hVS hm0 hz w.heap.size hlt0 hcm
  have hck := fun W => callsIn_wide.1 (keysI Fence.wide 2 trivial rfl (some I.v) W)
  have Hw0 := Lib.hid hw0
  clear hw0
  go_enter Tryz.func22, Tryz.ntmps22
  go_wp2_with fail
  refine (hck w).mono ?_
  rintro e w' ⟨rfl, rfl⟩
  rw [← Hw0.out]
  go_wp2_with fail
  refine hsv.mono ?_
  rintro e w1 ⟨ia, ic, rfl, hids, k1⟩
  have hsl := SliceAt.of_owns hids
  have hK := Kp.refl [] w1
  have hO : w1.ownsRow w1.heap.size 36 4 (.slice none 0 0) 0 [] := ⟨rfl, .inl ⟨rfl, rfl⟩⟩
  have kw1 : Kp [] w w1 := kB.trans k1
  obtain ⟨i0, hi, hz0, hz1, hz2⟩ := info_parts Tryz.info36
  have hil : x.ids.length ≤ 1000 := by unfold Ix.ids; rw [List.length_mergeSort, List.length_map]; exact hz
  clear hids hm0 hsv hck hcm c0 c1 c2 c3 c4
  go_wp2_with fail
  go_loopg [3, 15] x.ids.length (fun g o i wr => ∃ (n : Nat) (vls : List (VolD × Value)) (av : Option Addr) (cv : Nat), n + g = x.ids.length ∧ i = .int .i64 n ∧ o = .slice av n cv ∧ Kp [] w1 wr ∧ wr.ownsRow w1.heap.size 36 4 (.slice av n cv) n (vls.flatMap volC) ∧ vls.map (·.1) = (x.ids.take n).map (fun d => (x.vol d).1) ∧ ∀ q ∈ vls, wr.ownsRow w1.heap.size 88 2 q.2 q.1.locs.length (q.1.locs.flatMap locV))
  case atStart => exact ⟨0, [], none, 0, by omega, rfl, rfl, hK, hO, rfl, by simp⟩
  case round =>
    clear hK hO
    obtain ⟨n, vls, av, cv, hn, rfl, rfl, hK, hO, hvm, hql⟩ := hrel
    have HN := Lib.hid hn
    by_cases hlt : n < x.ids.length
    · obtain ⟨g', rfl⟩ : ∃ g', gk = g' + 1 := ⟨gk - 1, by omega⟩
      clear hn
      have hltI : (n : Int) < (x.ids.length : Int) := by omega
      obtain ⟨g, o, rfl, hc, -, hb, hcell⟩ := hsl.cells (by omega)
      have e0 := hcell n (.int .i64 x.ids[n]) (by rw [List.getElem?_map, List.getElem?_eq_getElem hlt]; rfl)
      have e1 := Kp.cellAt (X := []) e0 (by simp) wr hK
      have hvs := vol_some hf (mem_ids.1 (List.getElem_mem hlt))
      have hst : x.ids.take (n + 1) = x.ids.take n ++ [x.ids[n]] := by rw [List.take_add_one, List.getElem?_eq_getElem hlt]; rfl
      obtain ⟨d, hd⟩ : ∃ d, d = x.ids[n] := ⟨_, rfl⟩
      rw [← hd] at e1 hvs hst
      have hdw : (Lit.int .i64 d).wf = true := wf_i64 (by omega) (by omega)
      have hx := h.keep0 (kw1.trans hK)
      obtain ⟨lv, hlv, -, l1⟩ := look_vol hx hf hdw
      have h9 := vol_nine hvs.1
      obtain ⟨-, -, c2, -, -⟩ := hx.cells
      obtain ⟨vv, hvv⟩ : ∃ vv, vv = (x.vol d).1 := ⟨_, rfl⟩
      rw [← hvv] at hlv l1 h9
      have HVV := Lib.hid hvv
      have HST := Lib.hid hst
      have H9 := Lib.hid h9
      have HD := Lib.hid hd
      have HVM := Lib.hid hvm
      have HO := Lib.hid hO
      clear hvv hst h9 hd hvm hO e0
      go_wp2_with fail
      refine (icopied vv lv _ wr hlv.at (by have := H9.out; omega) (by have := H9.out; omega)).mono ?_
      rintro e w2 ⟨la, lc, rfl, hL, k2⟩
      obtain ⟨x0, x1, x2, ls⟩ := vv
      simp only [VolVA]
      simp only at hL
      have hO2 := owns_other HO.out k2 (fun _ _ => by simp)
      have hge := own_block_ge hO2
      have hs12 := hK.size
      have hs2 := k2.size
      go_wp2_with (first | (at_builtin; refine wpList_append_mine _ rfl (.tmp 19) (.tmp 27) 29 rfl w1.heap.size 36 i0 (.agg #[.int .i64 0, .int .i64 0, .int .i64 0, .slice none 0 0]) 4 48 Tryz.underlying29 hi hz0 hz1 hz2 rfl (by decide) (.slice av n cv) n (vls.flatMap volC) rfl (ownsRow_keep (X := []) hO2 ((Kp.refl _ w2).alloc _) (fun _ _ => by simp)) ⟨w2.heap.size, 0, none⟩ 1 1 [.int .i64 x0, .int .i64 x1, .int .i64 x2, .slice la ls.length lc] rfl rfl (new_cells w2 _ _) (oneCell_vol _ _ _ _ _ _) (by unfold maxLen; omega) (by omega) (by simp; omega) ?_))
      intro v' w3 hown' hkp _ _
      obtain ⟨av', cv', rfl⟩ := ownsRow_ex hown'
      have k3 : Kp (Value.slice av n cv).ownBlock.toList w2 w3 := ((Kp.refl _ w2).alloc _).trans hkp
      have hx3 : ∀ i, i < w1.heap.size → i ∉ (Value.slice av n cv).ownBlock.toList := fun i hi hm => by
        simp only [Option.mem_toList] at hm
        have := hge _ hm; omega
      have hK3 : Kp [] w1 w3 := (hK.trans k2).step k3 (fun i hi hm => absurd hm (hx3 i hi))
      have hnews : List.flatMap volC vls ++ [.int .i64 x0, .int .i64 x1, .int .i64 x2, .slice la ls.length lc] = (vls ++ [((⟨x0, x1, x2, ls⟩ : VolD), Value.slice la ls.length lc)]).flatMap volC := by simp [volC]
      rw [hnews] at hown'
      have hL3 := owns_other (ownsRow_base hL hs12) k3 (owns_apart hL hO2 (by decide))
      have hq3 : ∀ q ∈ vls, w3.ownsRow w1.heap.size 88 2 q.2 q.1.locs.length (q.1.locs.flatMap locV) := fun q hq => by
        have h2 := owns_other (hql q hq) k2 (fun _ _ => by simp)
        exact owns_other h2 k3 (owns_apart h2 hO2 (by decide))
      have HOW := Lib.hid hown'
      have HL3 := Lib.hid hL3
      have HQ3 := Lib.hid hq3
      clear hkp hown' k3 hge hnews hL3 hq3 hL hO2 hql
      go_wp2_with fail
      go_roundg g'
      case rel =>
        refine ⟨n + 1, vls ++ [((⟨x0, x1, x2, ls⟩ : VolD), Value.slice la ls.length lc)], av', cv', st_next HN.out, by go_num, rfl, hK3, HOW.out, ?_, fun q hq => ?_⟩
        · rw [List.map_append, HVM.out, HST.out, List.map_append]
          simp only [List.map_cons, List.map_nil]
          rw [← HVV.out]
        · rcases List.mem_append.1 hq with hq | hq
          · exact HQ3.out q hq
          · rw [List.mem_singleton] at hq
            subst hq
            exact HL3.out
      case measure => omega
    · obtain rfl : n = x.ids.length := by omega
      obtain rfl : gk = 0 := by omega
      rw [List.take_length] at hvm
      have hold : OldsAt I.X w.heap.size wr (.slice av x.ids.length cv) x.volumes := by
        have hlen : x.volumes.length = x.ids.length := by unfold Ix.volumes; rw [List.length_map]
        refine ⟨vls, av, cv, by rw [hlen], hvm, ?_, fun q hq => LocsT.of_owns rfl (hql q hq) (fun i hi => Nat.lt_of_lt_of_le (h.lts i hi) kw1.size)⟩
        rw [hlen]
        exact ownsRow_base hO kw1.size
      have HH := Lib.hid hold
      have HK := Lib.hid (kw1.trans hK)
      clear hn hvm hold hql hO
      go_wp2_with fail
      go_ret
      exact ⟨_, rfl, HH.out, HK.out⟩
end Go.Proofs.YtdhhddifmkijhaaGreat
