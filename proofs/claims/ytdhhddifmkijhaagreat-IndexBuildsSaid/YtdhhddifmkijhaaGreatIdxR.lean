/-
  merge: what Merge does.
-/
import Derived.Test.YtdhhddifmkijhaaGreatIdxM
import Derived.Test.YtdhhddifmkijhaaGreatP4
namespace Go.Proofs.YtdhhddifmkijhaaGreat
open Go.RowKit Go.Sort Go.ChangeMaps Go.Maps Go.WideShapes Go.WideMaps Go.WideElems Go.MapKept Go.ChangeShapes

section
variable {α β : Type} [DecidableEq α]
theorem aPut_map {γ : Type} (f : α × β → γ) (k : α) (v : γ) : ∀ {l : List (α × β)}, (l.map (·.1)).Nodup → k ∈ l.map (·.1) → aPut k v (l.map fun p => (p.1, f p)) = l.map fun p => (p.1, if p.1 = k then v else f p)
  | p :: r, hn, hk => by
    simp only [List.map_cons, List.nodup_cons] at hn
    simp only [List.map_cons, aPut]
    by_cases e : p.1 = k
    · subst e
      rw [if_pos rfl, if_pos rfl]
      congr 1
      refine List.map_congr_left fun q hq => ?_
      have : q.1 ≠ p.1 := fun e => hn.1 (e ▸ List.mem_map.2 ⟨q, hq, rfl⟩)
      rw [if_neg this]
    · rw [if_neg e, if_neg e, aPut_map f k v hn.2]
      simp only [List.map_cons, List.mem_cons] at hk
      exact hk.resolve_left (fun e2 => e e2.symm)
theorem aGet_map {γ : Type} (f : α × β → γ) (k : α) {v : β} : ∀ {l : List (α × β)}, (l.map (·.1)).Nodup → (k, v) ∈ l → aGet k (l.map fun p => (p.1, f p)) = some (f (k, v))
  | p :: r, hn, hk => by
    simp only [List.map_cons, List.nodup_cons] at hn
    simp only [List.map_cons, aGet]
    rcases List.mem_cons.1 hk with rfl | hk
    · rw [if_pos rfl]
    · rw [if_neg (fun e => hn.1 (by rw [e]; exact List.mem_map.2 ⟨_, hk, rfl⟩)), aGet_map f k hn.2 hk]
end
/-- the entries, of which those of S have been moved -/
def partE (m : EntD → EntD) (S : List (List UInt8)) (E : List (ByteArray × EntD)) : List (ByteArray × EntD) := E.map fun p => (p.1, if p.1.data.toList ∈ S then m p.2 else p.2)
theorem partE_nil (m : EntD → EntD) (E : List (ByteArray × EntD)) : partE m [] E = E := by
  unfold partE
  simp
theorem partE_all (m : EntD → EntD) {S : List (List UInt8)} {E : List (ByteArray × EntD)} (h : ∀ p ∈ E, p.1.data.toList ∈ S) : partE m S E = E.map fun p => (p.1, m p.2) := by
  unfold partE
  exact List.map_congr_left fun p hp => by rw [if_pos (h p hp)]
theorem bytes_of {k : ByteArray} {l : List UInt8} (h : k.data.toList = l) : k = ⟨l.toArray⟩ := by
  subst h
  simp
theorem partE_step (m : EntD → EntD) {S : List (List UInt8)} {E : List (ByteArray × EntD)} {k : List UInt8} {n : EntD} (hn : (E.map (·.1)).Nodup) (hk : ((⟨k.toArray⟩ : ByteArray), n) ∈ E) (hS : k ∉ S) :
    aGet (⟨k.toArray⟩ : ByteArray) (partE m S E) = some n ∧ aPut (⟨k.toArray⟩ : ByteArray) (m n) (partE m S E) = partE m (S ++ [k]) E := by
  unfold partE
  constructor
  · rw [aGet_map (fun p : ByteArray × EntD => if p.1.data.toList ∈ S then m p.2 else p.2) _ hn hk]
    simp [hS]
  · rw [aPut_map (fun p : ByteArray × EntD => if p.1.data.toList ∈ S then m p.2 else p.2) _ _ hn (List.mem_map.2 ⟨_, hk, rfl⟩)]
    refine List.map_congr_left fun p hp => ?_
    by_cases e : p.1 = ⟨k.toArray⟩
    · have h2 : p.2 = n := by
        have hg : ∀ l : List (ByteArray × EntD), (l.map (·.1)).Nodup → p ∈ l → ((⟨k.toArray⟩ : ByteArray), n) ∈ l → p.2 = n := by
          intro l
          induction l with
          | nil => intro _ h _; cases h
          | cons q r ih =>
            intro hn h1 h2
            simp only [List.map_cons, List.nodup_cons] at hn
            rcases List.mem_cons.1 h1 with rfl | h1
            · rcases List.mem_cons.1 h2 with h2 | h2
              · rw [← h2]
              · exact absurd (List.mem_map.2 ⟨_, h2, e.symm⟩) hn.1
            · rcases List.mem_cons.1 h2 with h2 | h2
              · exact absurd (List.mem_map.2 ⟨_, h1, by rw [← h2]; exact e⟩) hn.1
              · exact ih hn.2 h1 h2
        exact hg E hn hp hk
      rw [if_pos e, if_pos (by rw [e]; simp), h2]
    · have h3 : p.1.data.toList ≠ k := fun h => e (bytes_of h)
      rw [if_neg e]
      simp [h3]
theorem take_not {α : Type} {l : List α} (hn : l.Nodup) {n : Nat} (h : n < l.length) : l[n] ∉ l.take n := fun hm => by
  obtain ⟨j, hj, he⟩ := List.getElem_of_mem hm
  rw [List.length_take] at hj
  rw [List.getElem_take] at he
  exact List.pairwise_iff_getElem.1 hn j n (by omega) h (by omega) he
theorem take_next {α : Type} {l : List α} {n : Nat} (h : n < l.length) : l.take (n + 1) = l.take n ++ [l[n]] := by rw [List.take_add_one, List.getElem?_eq_getElem h]; rfl
theorem fit_part {x : Ix} (hf : Fit x) {V : List (Int × VolD)} {m : EntD → EntD} (hfm : Fit { x with V := V, E := x.E.map fun p => (p.1, m p.2) }) (S : List (List UInt8)) : Fit { x with V := V, E := partE m S x.E } := by
  refine ⟨fun p hp => ?_, hfm.gone, hfm.vols, hfm.had, hfm.next⟩
  obtain ⟨q, hq, rfl⟩ := List.mem_map.1 hp
  by_cases h : q.1.data.toList ∈ S
  · have := hfm.keys (q.1, m q.2) (List.mem_map.2 ⟨q, hq, rfl⟩)
    simp only [h, if_true]
    exact this
  · have := hf.keys q hq
    simp only [h, if_false]
    exact this
theorem two_map {vls : List (VolD × Value)} {a b : VolD} (h : vls.map (·.1) = [a, b]) : ∃ u v, vls = [(a, u), (b, v)] := by
  match vls, h with
  | [p, q], h =>
    simp only [List.map_cons, List.map_nil, List.cons.injEq, and_true] at h
    exact ⟨p.2, q.2, by rw [← h.1, ← h.2]⟩
set_option maxHeartbeats 1000000 in
set_option maxRecDepth 20000 in
theorem imerge {I : Ib} {x : Ix} (hf : Fit x) (hzE : x.E.length ≤ 900) (x0 x1 x2 x3 x4 x7 x8 x9 xc xd : Int) (lx : List (Int × Int)) (x6 xa xb : ByteArray) (la : Option Addr) (lc : Nat) (w : World) (h : IxAt I w x) (hl : LocsIn I.X w (.slice la lx.length lc) lx)
    (hvo : volOk ⟨x2, x3, x4, lx⟩ = true) (hbc : 0 ≤ xc ∧ xc ≤ 1099511627776) (hbd : 0 ≤ xd ∧ xd ≤ 1099511627776) (hnd : (x.E.map (·.1)).Nodup) (V2 : List (Int × VolD)) (hV2 : V2 = (takeL [xc, xd] x.V).2) (L : Int) (hL0 : 0 ≤ L) (hL1 : L ≤ 384) (hLe : L = (vget xc x.V).len)
    (hfm : Fit { x with V := V2, E := x.E.map fun p => (p.1, moved xc xd x2 L p.2) }) :
    Calls Tryz.prog 34 #[I.p, .agg #[.int .i64 x0, .int .i64 x1, .int .i64 x2, .int .i64 x3, .int .i64 x4, .slice la lx.length lc, .string x6, .int .i64 x7, .int .i64 x8, .int .i64 x9, .string xa, .string xb, .int .i64 xc, .int .i64 xd]] w fun e w' => ∃ v, e = .returned v ∧ OldsAt I.X w.heap.size w' v (takeL [xc, xd] x.V).1 ∧ IxAt I w' (Ix.lay { x with V := V2, E := x.E.map fun p => (p.1, moved xc xd x2 L p.2) } ⟨x2, x3, x4, lx⟩) ∧ Kp I.X w w' := by
  obtain ⟨w1, hw1⟩ : ∃ w1, w1 = w.alloc (.cells #[.int .i64 x0, .int .i64 x1, .int .i64 x2, .int .i64 x3, .int .i64 x4, .slice la lx.length lc, .string x6, .int .i64 x7, .int .i64 x8, .int .i64 x9, .string xa, .string xb, .int .i64 xc, .int .i64 xd] 43) := ⟨_, rfl⟩
  have k1 : Kp [] w w1 := hw1 ▸ (Kp.refl _ _).alloc _
  have b1 : w1.heap[w.heap.size]? = some (.cells #[.int .i64 x0, .int .i64 x1, .int .i64 x2, .int .i64 x3, .int .i64 x4, .slice la lx.length lc, .string x6, .int .i64 x7, .int .i64 x8, .int .i64 x9, .string xa, .string xb, .int .i64 xc, .int .i64 xd] 43 (0, 0)) := by rw [hw1]; exact block_new _ _
  have hx : w.heap.size ∉ I.X := fun hm => Nat.lt_irrefl _ (h.lts _ hm)
  have c2 := Kp.cellAt (X := I.X) (w0 := w1) (p := ⟨w.heap.size, 2, none⟩) (v := .int .i64 x2) (cell_of_cells b1 rfl) hx
  have c3 := Kp.cellAt (X := I.X) (w0 := w1) (p := ⟨w.heap.size, 3, none⟩) (v := .int .i64 x3) (cell_of_cells b1 rfl) hx
  have c4 := Kp.cellAt (X := I.X) (w0 := w1) (p := ⟨w.heap.size, 4, none⟩) (v := .int .i64 x4) (cell_of_cells b1 rfl) hx
  have c5 := Kp.cellAt (X := I.X) (w0 := w1) (p := ⟨w.heap.size, 5, none⟩) (v := .slice la lx.length lc) (cell_of_cells b1 rfl) hx
  have cc := Kp.cellAt (X := I.X) (w0 := w1) (p := ⟨w.heap.size, 12, none⟩) (v := .int .i64 xc) (cell_of_cells b1 rfl) hx
  have cd := Kp.cellAt (X := I.X) (w0 := w1) (p := ⟨w.heap.size, 13, none⟩) (v := .int .i64 xd) (cell_of_cells b1 rfl) hx
  have h1 := h.keep0 k1
  have hl1 := hl.keep k1 (fun _ h => by cases h)
  have hK := Kp.refl I.X w1
  have hwz : w.heap.size ≤ w1.heap.size := k1.size
  have hlts := h.lts
  have hws : w.heap.size + 1 = w1.heap.size := by rw [hw1, World.size_alloc]
  have HWS := Lib.hid hws
  have Hw1 := Lib.hid hw1
  have HV2 := Lib.hid hV2
  have HLe := Lib.hid hLe
  clear hw1 b1 hws hV2 hLe
  go_enter Tryz.func34, Tryz.ntmps34
  go_wp2_with fail
  rw [← Hw1.out, HWS.out]
  have kA : Kp [] w1 (w1.alloc (.cells #[.int .i64 xc, .int .i64 xd] 3)) := (Kp.refl _ _).alloc _
  have hids : SliceAt (w1.heap.size + 1) (w1.alloc (.cells #[.int .i64 xc, .int .i64 xd] 3)) (.slice (some ⟨w1.heap.size, 0, none⟩) 2 2) 1 [xc, xd].length ([xc, xd].map (Value.int .i64)) := slice_new w1 3 [.int .i64 xc, .int .i64 xd] 1 2 rfl
  refine (itake hf [xc, xd] _ _ _ (h1.keep0 kA) hids (by simp) (fun d hd => ?_) (fun g hg => ?_)).mono ?_
  · simp only [List.mem_cons, List.not_mem_nil, or_false] at hd
    rcases hd with rfl | rfl
    · exact wf_i64 (by omega) (by omega)
    · exact wf_i64 (by omega) (by omega)
  · simp only [Value.ownBlock, Option.some.injEq] at hg
    have := h1.lts _ I.mem.2.2.2.1
    omega
  rintro e w2 ⟨vls, av, cv, rfl, ha, hO, hL, hI, hk2⟩
  have hk2' : Kp I.X w1 w2 := (kA.weaken (fun _ _ h => by cases h)).trans (hk2.weaken (fun i _ hi => by simp only [List.mem_singleton] at hi; subst hi; exact I.mem.2.2.2.1))
  have hold : OldsAt I.X (w1.heap.size + 1) w2 (.slice av [xc, xd].length cv) (takeL [xc, xd] x.V).1 := by
    refine ⟨vls, av, cv, by rw [takeL_len], ha, ?_, hL⟩
    rw [takeL_len]
    exact ownsRow_base hO (by rw [World.size_alloc]; exact Nat.le_refl _)
  obtain ⟨g, o, rfl, -, -, -, hcell⟩ := (SliceAt.of_owns hO).cells (by simp)
  have hge := own_block_ge hO g rfl
  rw [World.size_alloc] at hge
  have hlen : w2.cell? ⟨g, o + 2, none⟩ = some (.int .i64 L) := by
    have ha2 : vls.map (·.1) = [vget xc x.V, vget xd (aDel xc x.V)] := ha
    obtain ⟨u, v, rfl⟩ := two_map ha2
    exact hcell 2 _ (by rw [HLe.out]; rfl)
  rw [← HV2.out] at hI
  have hgX : g ∉ I.X := fun hm => by have := hlts g hm; omega
  have hK2 := hK.trans hk2'
  have hs2 := hk2'.size
  obtain ⟨X1, hX1⟩ : ∃ X1 : Ix, X1 = { x with V := V2 } := ⟨_, rfl⟩
  have hI2 : IxAt I w2 X1 := by rw [hX1]; exact hI
  have hf2 : Fit X1 := by rw [hX1, HV2.out]; exact hf.takeV [xc, xd]
  have hzX : X1.E.length ≤ 1000 := by rw [hX1]; show x.E.length ≤ 1000; omega
  have hl2 := hl1.keep hk2' (fun i hi _ => hi)
  have HO := Lib.hid hold
  have HX1 := Lib.hid hX1
  obtain ⟨w3, hw3⟩ : ∃ w3, w3 = w2.alloc (.cells #[.map (some I.e)] 65) := ⟨_, rfl⟩
  have k3 : Kp [] w2 w3 := hw3 ▸ (Kp.refl _ _).alloc _
  have hc3 : w3.cell? ⟨w2.heap.size, 0, none⟩ = some (.map (some I.e)) := by rw [hw3]; exact cell_of_cells (block_new _ _) rfl
  have hs3 : w2.heap.size < w3.heap.size := by rw [hw3, World.size_alloc]; exact Nat.lt_succ_self _
  have hI3 := hI2.keep0 k3
  have hck := callsIn_wide.1 (keysS Fence.wide 2 trivial rfl (some I.e) w2)
  have hst := stopsS (H := EntD) Fence.wide 2 trivial rfl (by omega) w2.heap.size I.e _ (datE X1) w3 hs3 hc3 (ents_own hI3 hf2 hzX)
  have hsz : Maps.size (datE X1) ≤ 1000 := by unfold datE; rw [datOf_size]; exact hzX
  have hco := callsIn_wide.1 (collectS Fence.wide 4 trivial trivial rfl (by omega) 78 _ trivial (enters_of Tryz.func78 (by kernel_rfl) rfl) _ _ _ (by unfold maxLen; omega) (by omega) w3 hst)
  have d0 := hI2.cells.1
  have Hw3 := Lib.hid hw3
  clear hw3 hold hX1 hI hcell hO hL ha hst hids hc3
  go_wp2_with fail
  refine hck.mono ?_
  rintro e w' ⟨rfl, rfl⟩
  rw [← Hw3.out]
  clear hck
  go_wp2_with fail
  refine hco.mono ?_
  rintro e w4 ⟨kv, xs, rfl, hS, hrow, hb4⟩
  clear hco
  obtain ⟨ka, kc, rfl⟩ := ownsRow_ex hrow
  have k4 : Kp [] w3 w4 := Kp.of_below hb4 _
  have hI4 := hI3.keep0 k4
  have hpm := allk_ents hI3 hf2 hS
  have hnx := hS.1
  have hxE : X1.E = x.E := by rw [HX1.out]
  rw [hxE] at hpm
  have hxl : xs.length ≤ 1000 := by rw [hpm.length_eq, List.length_map]; omega
  have hK4 : Kp I.X w1 w4 := hK2.trans ((k3.trans k4).weaken (fun _ _ h => by cases h))
  have hl4 := hl2.keep (k3.trans k4) (fun _ h => by cases h)
  have hrs := SliceAt.of_owns hrow
  have hge4 := own_block_ge hrow
  have hlen4 := ((k3.trans k4).cell (p := ⟨g, o + 2, none⟩) (lt_of_cell hlen) (by simp)).trans hlen
  have hIs : IxAt I w4 { X1 with E := partE (moved xc xd x2 L) (xs.take 0) x.E } := by
    rw [List.take_zero, partE_nil, ← hxE]
    exact hI4
  have hKe := Kp.refl [I.e] w4
  have hem := I.mem.2.1
  have HPM := Lib.hid hpm
  have HNX := Lib.hid hnx
  have HND := Lib.hid hnd
  clear hpm hnx hnd hrow hS hxE hb4
  go_wp2_with fail
  go_loopg [23] xs.length (fun g i wr => ∃ n : Nat, n + g = xs.length ∧ i = .int .i64 n ∧ Kp [I.e] w4 wr ∧ IxAt I wr { X1 with E := partE (moved xc xd x2 L) (xs.take n) x.E })
  case atStart => exact ⟨0, by omega, rfl, hKe, hIs⟩
  case round =>
    clear hKe hIs
    obtain ⟨n, hn, rfl, hKe, hIr⟩ := hrel
    have HN := Lib.hid hn
    by_cases hlt : n < xs.length
    · obtain ⟨g', rfl⟩ : ∃ g', gk = g' + 1 := ⟨gk - 1, by omega⟩
      clear hn
      have hltI : (n : Int) < (xs.length : Int) := by omega
      obtain ⟨k, hk⟩ : ∃ k, k = xs[n] := ⟨_, rfl⟩
      obtain ⟨gb, ob, rfl, -, -, hgb, hcl⟩ := hrs.cells (by omega)
      have hge5 := hge4 gb rfl
      have ec := hcl n (encStr k) (by rw [List.getElem?_map, List.getElem?_eq_getElem hlt, hk]; rfl)
      have hge6 : gb ≠ I.e := by have := hlts _ hem; omega
      have e1 := (hKe.cell (lt_of_cell ec) (by simpa using hge6)).trans ec
      obtain ⟨p, hp, hpk⟩ := List.mem_map.1 (HPM.out.mem_iff.1 (hk ▸ List.getElem_mem hlt : k ∈ xs))
      obtain ⟨n0, hn0⟩ : ∃ n0, n0 = p.2 := ⟨_, rfl⟩
      have hp' : ((⟨k.toArray⟩ : ByteArray), n0) ∈ x.E := by rw [← bytes_of hpk, hn0]; exact hp
      have hkS : k ∉ xs.take n := by rw [hk]; exact take_not HNX.out hlt
      obtain ⟨hget, hput⟩ := partE_step (moved xc xd x2 L) HND.out hp' hkS
      have htn := take_next hlt
      rw [← hk] at htn
      rw [← htn] at hput
      have hfn : Fit { X1 with E := partE (moved xc xd x2 L) (xs.take n) x.E } := by rw [HX1.out]; exact fit_part hf hfm _
      have hbk := hf.keys _ hp'
      have hkm : (⟨k.toArray⟩ : ByteArray).size ≤ maxLen := max_key hbk.1
      have l1 := look_ent1 hIr hfn hkm
      have hgn : (Ix.get { X1 with E := partE (moved xc xd x2 L) (xs.take n) x.E } ⟨k.toArray⟩).1 = n0 := by unfold Ix.get; simp only; rw [hget]
      rw [hgn] at l1
      have HPUT := Lib.hid hput
      have d1 := hIr.cells.1
      obtain ⟨a1, a2, a3, a4, a5⟩ := n0
      simp only [EntVA] at l1
      simp only at hbk
      obtain ⟨w5, hw5⟩ : ∃ w5, w5 = wr.alloc (.cells #[.string a1, .int .i64 a2, .int .i64 a3, .int .i64 a4, .string a5] 38) := ⟨_, rfl⟩
      have k5 : Kp [] wr w5 := hw5 ▸ (Kp.refl _ _).alloc _
      have b5 : w5.heap[wr.heap.size]? = some (.cells #[.string a1, .int .i64 a2, .int .i64 a3, .int .i64 a4, .string a5] 38 (0, 0)) := by rw [hw5]; exact block_new _ _
      have hKr : Kp I.X w1 wr := hK4.trans (hKe.weaken (fun i _ hi => by simp only [List.mem_singleton] at hi; subst hi; exact hem))
      have hK5 := hKr.trans (k5.weaken (fun _ _ h => by cases h))
      have cd5 := cd _ hK5
      have cc5 := cc _ hK5
      have c25 := c2 _ hK5
      rw [hw5] at cd5 cc5 c25
      have hwrX : wr.heap.size ∉ I.X := fun hm => Nat.lt_irrefl _ (Nat.lt_of_lt_of_le (hlts _ hm) (Nat.le_trans hwz hKr.size))
      have hnw : wr.heap.size ≠ w.heap.size := by have := hs2; have := hs3; have := k4.size; have := hKe.size; omega
      have Hw5 := Lib.hid hw5
      clear hput hget hgn hn0 hk htn hpk hp' hp ec hcl hkS hw5
      by_cases hto : a2 = xd
      · have hb : (a2 == xd) = true := by simp [hto]
        have hmv : moved xc xd x2 L ⟨a1, a2, a3, a4, a5⟩ = ⟨a1, x2, a3 + L, a4, a5⟩ := by unfold moved; rw [if_pos hto]
        have HMV := Lib.hid hmv
        clear hto hmv
        have hwr := wrap_id (a3 + L) (by omega) (by omega)
        have hlen5 := ((hKe.cell (lt_of_cell hlen4) (by simp only [List.mem_singleton]; intro e; exact hgX (e ▸ hem))).trans hlen4)
        have f2 := Kp.cellAt (X := []) (w0 := w5) (p := ⟨wr.heap.size, 2, none⟩) (v := .int .i64 a3) (cell_of_cells b5 rfl) (by simp)
        have f3 := Kp.cellAt (X := []) (w0 := w5) (p := ⟨g, o + 2, none⟩) (v := .int .i64 L) ((k5.cell (lt_of_cell hlen5) (by simp)).trans hlen5) (by simp)
        have fz := frozen_of_cells b5
        go_wp2_with fail
        rw [← Hw5.out]
        refine wpB_begin 8 (Kp [] w5) (by kernel_rfl) (by exact (Kp.refl _ _).drew) (fun hHeld => ?_)
        refine wpB_take 0 _ ?_ rfl (by kernel_rfl) (fun _ _ _ h => h) rfl hHeld ?_ ?_
        rotate_left
        · (intro W hW; go_simp; try with_reducible rfl)
        try simp only [Act.put, List.setIfInBounds_toArray, List.set_cons_zero, List.set_cons_succ]
        refine wpB_take 1 _ ?_ rfl (by kernel_rfl) (fun _ _ _ h => h) rfl hHeld ?_ ?_
        rotate_left
        · (intro W hW; go_simp; try with_reducible rfl)
        try simp only [Act.put, List.setIfInBounds_toArray, List.set_cons_zero, List.set_cons_succ]
        refine wpB_take 2 _ ?_ rfl (by kernel_rfl) (fun _ _ _ h => h) rfl hHeld ?_ ?_
        rotate_left
        · (intro W hW; go_simp; try with_reducible rfl)
        try simp only [Act.put, List.setIfInBounds_toArray, List.set_cons_zero, List.set_cons_succ]
        refine wpB_take 3 _ ?_ rfl (by kernel_rfl) (fun _ _ _ h => h) rfl hHeld ?_ ?_
        rotate_left
        · (intro W hW; go_simp; try with_reducible rfl)
        try simp only [Act.put, List.setIfInBounds_toArray, List.set_cons_zero, List.set_cons_succ]
        refine wpB_take 4 _ ?_ rfl (by kernel_rfl) (fun _ _ _ h => h) rfl hHeld ?_ ?_
        rotate_left
        · (intro W hW; go_simp; try with_reducible rfl)
        try simp only [Act.put, List.setIfInBounds_toArray, List.set_cons_zero, List.set_cons_succ]
        refine wpB_take 5 _ ?_ rfl (by kernel_rfl) (fun _ _ _ h => h) rfl hHeld ?_ ?_
        rotate_left
        · (intro W hW; go_simp; try with_reducible rfl)
        try simp only [Act.put, List.setIfInBounds_toArray, List.set_cons_zero, List.set_cons_succ]
        refine wpB_take 6 _ ?_ rfl (by kernel_rfl) (fun _ _ _ h => h) rfl hHeld ?_ ?_
        rotate_left
        · (intro W hW; go_simp; try with_reducible rfl)
        try simp only [Act.put, List.setIfInBounds_toArray, List.set_cons_zero, List.set_cons_succ]
        refine wpB_take 7 _ ?_ rfl (by kernel_rfl) (fun _ _ _ h => h) rfl hHeld ?_ ?_
        rotate_left
        · (intro W hW; go_simp; try with_reducible rfl)
        try simp only [Act.put, List.setIfInBounds_toArray, List.set_cons_zero, List.set_cons_succ]
        refine wpB_bar (Kp [wr.heap.size] w5) 999 _ rfl (by kernel_rfl) rfl (fun K hK_ => ?_)
        go_simp
        refine hK_.out _ _ (by exact (hHeld.weaken (fun _ _ h => by cases h)).setCell (p := ⟨wr.heap.size, 2, none⟩) (.inl (by simp)) _) (fun hHeld => ?_)
        clear hK_ K
        try simp only [Act.put, List.setIfInBounds_toArray, List.set_cons_zero, List.set_cons_succ]
        refine wpB_done (by kernel_rfl) ?_ _
        have ba : ((w5.setCell ⟨wr.heap.size, 2, none⟩ (.int .i64 (a3 + L))).drew).heap[wr.heap.size]? = some (.cells #[.string a1, .int .i64 a2, .int .i64 (a3 + L), .int .i64 a4, .string a5] 38 (0, 0)) := by
          show (w5.setCell ⟨wr.heap.size, 2, none⟩ (.int .i64 (a3 + L))).heap[wr.heap.size]? = _
          rw [block_setCell b5]; rfl
        obtain ⟨wa, hwa⟩ : ∃ wa, wa = (w5.setCell ⟨wr.heap.size, 2, none⟩ (.int .i64 (a3 + L))).drew := ⟨_, rfl⟩
        rw [← hwa] at ba hHeld ⊢
        have ca1 := cell_of_cells (o := 1) (v := .int .i64 a2) ba rfl
        have fa := frozen_of_cells ba
        have c2a := (hHeld.cell (p := ⟨w.heap.size, 2, none⟩) (by have := lt_of_cell (c2 _ hK5); exact this) (by simp; omega)).trans (c2 _ hK5)
        have b6 : (wa.setCell ⟨wr.heap.size, 1, none⟩ (.int .i64 x2)).heap[wr.heap.size]? = some (.cells #[.string a1, .int .i64 x2, .int .i64 (a3 + L), .int .i64 a4, .string a5] 38 (0, 0)) := by
          rw [block_setCell ba]; rfl
        have k56 : Kp [] wr (wa.setCell ⟨wr.heap.size, 1, none⟩ (.int .i64 x2)) := (k5.step hHeld (fun i hi hm => by simp only [List.mem_singleton] at hm; omega)).setCell (.inr (Nat.le_refl _)) _
        obtain ⟨w6, hw6⟩ : ∃ w6, w6 = wa.setCell ⟨wr.heap.size, 1, none⟩ (.int .i64 x2) := ⟨_, rfl⟩
        rw [← hw6] at b6 k56
        have Hw6 := Lib.hid hw6
        clear hwa hw6 hHeld ba f2 f3 fz cd5 cc5 c25 hwr l1
        go_wp2_with fail
        rw [← Hw6.out]
        have kr6 := k56
        have hI6 := hIr.keep0 kr6
        obtain ⟨y0, y1, y2, y3, y4⟩ := read5 b6
        have z0 := Kp.cellAt (X := []) y0 (by simp)
        have z1 := Kp.cellAt (X := []) y1 (by simp)
        have z2 := Kp.cellAt (X := []) y2 (by simp)
        have z3 := Kp.cellAt (X := []) y3 (by simp)
        have z4 := Kp.cellAt (X := []) y4 (by simp)
        have q0 := Kp.cellAt (X := []) hI6.cells.1 (by simp)
        clear y0 y1 y2 y3 y4
        go_wp2_with fail
        refine wpB_begin 6 (Kp [] w6) (by kernel_rfl) (by exact (Kp.refl _ _).drew) (fun hHeld => ?_)
        refine wpB_take 0 _ ?_ rfl (by kernel_rfl) (fun _ _ _ h => h) rfl hHeld ?_ ?_
        rotate_left
        · (intro W hW; go_simp; try with_reducible rfl)
        try simp only [Act.put, List.setIfInBounds_toArray, List.set_cons_zero, List.set_cons_succ]
        refine wpB_take 1 _ ?_ rfl (by kernel_rfl) (fun _ _ _ h => h) rfl hHeld ?_ ?_
        rotate_left
        · (intro W hW; go_simp; try with_reducible rfl)
        try simp only [Act.put, List.setIfInBounds_toArray, List.set_cons_zero, List.set_cons_succ]
        refine wpB_take 2 _ ?_ rfl (by kernel_rfl) (fun _ _ _ h => h) rfl hHeld ?_ ?_
        rotate_left
        · (intro W hW; go_simp; try with_reducible rfl)
        try simp only [Act.put, List.setIfInBounds_toArray, List.set_cons_zero, List.set_cons_succ]
        refine wpB_take 3 _ ?_ rfl (by kernel_rfl) (fun _ _ _ h => h) rfl hHeld ?_ ?_
        rotate_left
        · (intro W hW; go_simp; try with_reducible rfl)
        try simp only [Act.put, List.setIfInBounds_toArray, List.set_cons_zero, List.set_cons_succ]
        refine wpB_take 4 _ ?_ rfl (by kernel_rfl) (fun _ _ _ h => h) rfl hHeld ?_ ?_
        rotate_left
        · (intro W hW; go_simp; try with_reducible rfl)
        try simp only [Act.put, List.setIfInBounds_toArray, List.set_cons_zero, List.set_cons_succ]
        refine wpB_take 5 _ ?_ rfl (by kernel_rfl) (fun _ _ _ h => h) rfl hHeld ?_ ?_
        rotate_left
        · (intro W hW; go_simp; try with_reducible rfl)
        try simp only [Act.put, List.setIfInBounds_toArray, List.set_cons_zero, List.set_cons_succ]
        refine wpB_bar (Kp [I.e] w6) 999 _ rfl (by kernel_rfl) rfl (fun K hK_ => ?_)
        obtain ⟨w7, r7, i7, k7⟩ := put_ent (hI6.keep0 hHeld) hfn hkm ⟨a1, x2, a3 + L, a4, a5⟩
        simp only [EntVA] at r7
        go_simp
        refine hK_.out _ _ (by exact (hHeld.weaken (fun _ _ h => by cases h)).trans k7) (fun hHeld => ?_)
        clear hK_ K
        try simp only [Act.put, List.setIfInBounds_toArray, List.set_cons_zero, List.set_cons_succ]
        refine wpB_done (by kernel_rfl) ?_ _
        have hKe7 : Kp [I.e] w4 w7 := (hKe.call kr6).trans hHeld
        have i8 : IxAt I w7 { X1 with E := partE (moved xc xd x2 L) (xs.take (n + 1)) x.E } := by
          have h8 := i7
          simp only at h8
          rw [← HMV.out, HPUT.out] at h8
          exact h8
        have HI8 := Lib.hid i8
        have HK8 := Lib.hid hKe7
        clear i7 i8 r7 k7 hKe7 hHeld
        go_wp2_with fail
        go_roundg g'
        case rel => exact ⟨n + 1, st_next HN.out, by go_num, HK8.out, HI8.out⟩
        case measure => omega
      · have hb : (a2 == xd) = false := by simp [hto]
        by_cases hfr : a2 = xc
        · have hb2 : (a2 == xc) = true := by simp [hfr]
          have hmv : moved xc xd x2 L ⟨a1, a2, a3, a4, a5⟩ = ⟨a1, x2, a3, a4, a5⟩ := by unfold moved; rw [if_neg hto, if_pos hfr]
          have HMV := Lib.hid hmv
          clear hto hmv hfr
          obtain ⟨w6, hw6⟩ : ∃ w6, w6 = wr.alloc (.cells #[.string a1, .int .i64 x2, .int .i64 a3, .int .i64 a4, .string a5] 38) := ⟨_, rfl⟩
          have k56 : Kp [] wr w6 := hw6 ▸ (Kp.refl _ _).alloc _
          have b6 : w6.heap[wr.heap.size]? = some (.cells #[.string a1, .int .i64 x2, .int .i64 a3, .int .i64 a4, .string a5] 38 (0, 0)) := by rw [hw6]; exact block_new _ _
          have Hw6 := Lib.hid hw6
          clear hw6
          go_wp2_with fail
          rw [← Hw6.out]
          have kr6 := k56
          have hI6 := hIr.keep0 kr6
          obtain ⟨y0, y1, y2, y3, y4⟩ := read5 b6
          have z0 := Kp.cellAt (X := []) y0 (by simp)
          have z1 := Kp.cellAt (X := []) y1 (by simp)
          have z2 := Kp.cellAt (X := []) y2 (by simp)
          have z3 := Kp.cellAt (X := []) y3 (by simp)
          have z4 := Kp.cellAt (X := []) y4 (by simp)
          have q0 := Kp.cellAt (X := []) hI6.cells.1 (by simp)
          clear y0 y1 y2 y3 y4
          go_wp2_with fail
          refine wpB_begin 6 (Kp [] w6) (by kernel_rfl) (by exact (Kp.refl _ _).drew) (fun hHeld => ?_)
          refine wpB_take 0 _ ?_ rfl (by kernel_rfl) (fun _ _ _ h => h) rfl hHeld ?_ ?_
          rotate_left
          · (intro W hW; go_simp; try with_reducible rfl)
          try simp only [Act.put, List.setIfInBounds_toArray, List.set_cons_zero, List.set_cons_succ]
          refine wpB_take 1 _ ?_ rfl (by kernel_rfl) (fun _ _ _ h => h) rfl hHeld ?_ ?_
          rotate_left
          · (intro W hW; go_simp; try with_reducible rfl)
          try simp only [Act.put, List.setIfInBounds_toArray, List.set_cons_zero, List.set_cons_succ]
          refine wpB_take 2 _ ?_ rfl (by kernel_rfl) (fun _ _ _ h => h) rfl hHeld ?_ ?_
          rotate_left
          · (intro W hW; go_simp; try with_reducible rfl)
          try simp only [Act.put, List.setIfInBounds_toArray, List.set_cons_zero, List.set_cons_succ]
          refine wpB_take 3 _ ?_ rfl (by kernel_rfl) (fun _ _ _ h => h) rfl hHeld ?_ ?_
          rotate_left
          · (intro W hW; go_simp; try with_reducible rfl)
          try simp only [Act.put, List.setIfInBounds_toArray, List.set_cons_zero, List.set_cons_succ]
          refine wpB_take 4 _ ?_ rfl (by kernel_rfl) (fun _ _ _ h => h) rfl hHeld ?_ ?_
          rotate_left
          · (intro W hW; go_simp; try with_reducible rfl)
          try simp only [Act.put, List.setIfInBounds_toArray, List.set_cons_zero, List.set_cons_succ]
          refine wpB_take 5 _ ?_ rfl (by kernel_rfl) (fun _ _ _ h => h) rfl hHeld ?_ ?_
          rotate_left
          · (intro W hW; go_simp; try with_reducible rfl)
          try simp only [Act.put, List.setIfInBounds_toArray, List.set_cons_zero, List.set_cons_succ]
          refine wpB_bar (Kp [I.e] w6) 999 _ rfl (by kernel_rfl) rfl (fun K hK_ => ?_)
          obtain ⟨w7, r7, i7, k7⟩ := put_ent (hI6.keep0 hHeld) hfn hkm ⟨a1, x2, a3, a4, a5⟩
          simp only [EntVA] at r7
          go_simp
          refine hK_.out _ _ (by exact (hHeld.weaken (fun _ _ h => by cases h)).trans k7) (fun hHeld => ?_)
          clear hK_ K
          try simp only [Act.put, List.setIfInBounds_toArray, List.set_cons_zero, List.set_cons_succ]
          refine wpB_done (by kernel_rfl) ?_ _
          have hKe7 : Kp [I.e] w4 w7 := (hKe.call kr6).trans hHeld
          have i8 : IxAt I w7 { X1 with E := partE (moved xc xd x2 L) (xs.take (n + 1)) x.E } := by
            have h8 := i7
            simp only at h8
            rw [← HMV.out, HPUT.out] at h8
            exact h8
          have HI8 := Lib.hid i8
          have HK8 := Lib.hid hKe7
          clear i7 i8 r7 k7 hKe7 hHeld
          go_wp2_with fail
          go_roundg g'
          case rel => exact ⟨n + 1, st_next HN.out, by go_num, HK8.out, HI8.out⟩
          case measure => omega
        · have hb2 : (a2 == xc) = false := by simp [hfr]
          have hmv : moved xc xd x2 L ⟨a1, a2, a3, a4, a5⟩ = ⟨a1, a2, a3, a4, a5⟩ := by unfold moved; rw [if_neg hto, if_neg hfr]
          have HMV := Lib.hid hmv
          clear hto hmv hfr
          have b6 := b5
          have k56 := k5
          obtain ⟨w6, hw6⟩ : ∃ w6, w6 = w5 := ⟨_, rfl⟩
          rw [← hw6] at b6 k56
          have Hw6 := Lib.hid hw6
          clear hw6
          go_wp2_with fail
          rw [← Hw5.out, ← Hw6.out]
          have kr6 := k56
          have hI6 := hIr.keep0 kr6
          obtain ⟨y0, y1, y2, y3, y4⟩ := read5 b6
          have z0 := Kp.cellAt (X := []) y0 (by simp)
          have z1 := Kp.cellAt (X := []) y1 (by simp)
          have z2 := Kp.cellAt (X := []) y2 (by simp)
          have z3 := Kp.cellAt (X := []) y3 (by simp)
          have z4 := Kp.cellAt (X := []) y4 (by simp)
          have q0 := Kp.cellAt (X := []) hI6.cells.1 (by simp)
          clear y0 y1 y2 y3 y4
          go_wp2_with fail
          refine wpB_begin 6 (Kp [] w6) (by kernel_rfl) (by exact (Kp.refl _ _).drew) (fun hHeld => ?_)
          refine wpB_take 0 _ ?_ rfl (by kernel_rfl) (fun _ _ _ h => h) rfl hHeld ?_ ?_
          rotate_left
          · (intro W hW; go_simp; try with_reducible rfl)
          try simp only [Act.put, List.setIfInBounds_toArray, List.set_cons_zero, List.set_cons_succ]
          refine wpB_take 1 _ ?_ rfl (by kernel_rfl) (fun _ _ _ h => h) rfl hHeld ?_ ?_
          rotate_left
          · (intro W hW; go_simp; try with_reducible rfl)
          try simp only [Act.put, List.setIfInBounds_toArray, List.set_cons_zero, List.set_cons_succ]
          refine wpB_take 2 _ ?_ rfl (by kernel_rfl) (fun _ _ _ h => h) rfl hHeld ?_ ?_
          rotate_left
          · (intro W hW; go_simp; try with_reducible rfl)
          try simp only [Act.put, List.setIfInBounds_toArray, List.set_cons_zero, List.set_cons_succ]
          refine wpB_take 3 _ ?_ rfl (by kernel_rfl) (fun _ _ _ h => h) rfl hHeld ?_ ?_
          rotate_left
          · (intro W hW; go_simp; try with_reducible rfl)
          try simp only [Act.put, List.setIfInBounds_toArray, List.set_cons_zero, List.set_cons_succ]
          refine wpB_take 4 _ ?_ rfl (by kernel_rfl) (fun _ _ _ h => h) rfl hHeld ?_ ?_
          rotate_left
          · (intro W hW; go_simp; try with_reducible rfl)
          try simp only [Act.put, List.setIfInBounds_toArray, List.set_cons_zero, List.set_cons_succ]
          refine wpB_take 5 _ ?_ rfl (by kernel_rfl) (fun _ _ _ h => h) rfl hHeld ?_ ?_
          rotate_left
          · (intro W hW; go_simp; try with_reducible rfl)
          try simp only [Act.put, List.setIfInBounds_toArray, List.set_cons_zero, List.set_cons_succ]
          refine wpB_bar (Kp [I.e] w6) 999 _ rfl (by kernel_rfl) rfl (fun K hK_ => ?_)
          obtain ⟨w7, r7, i7, k7⟩ := put_ent (hI6.keep0 hHeld) hfn hkm ⟨a1, a2, a3, a4, a5⟩
          simp only [EntVA] at r7
          go_simp
          refine hK_.out _ _ (by exact (hHeld.weaken (fun _ _ h => by cases h)).trans k7) (fun hHeld => ?_)
          clear hK_ K
          try simp only [Act.put, List.setIfInBounds_toArray, List.set_cons_zero, List.set_cons_succ]
          refine wpB_done (by kernel_rfl) ?_ _
          have hKe7 : Kp [I.e] w4 w7 := (hKe.call kr6).trans hHeld
          have i8 : IxAt I w7 { X1 with E := partE (moved xc xd x2 L) (xs.take (n + 1)) x.E } := by
            have h8 := i7
            simp only at h8
            rw [← HMV.out, HPUT.out] at h8
            exact h8
          have HI8 := Lib.hid i8
          have HK8 := Lib.hid hKe7
          clear i7 i8 r7 k7 hKe7 hHeld
          go_wp2_with fail
          go_roundg g'
          case rel => exact ⟨n + 1, st_next HN.out, by go_num, HK8.out, HI8.out⟩
          case measure => omega
    · obtain rfl : n = xs.length := by omega
      obtain rfl : gk = 0 := by omega
      rw [List.take_length, partE_all _ (fun p hp => HPM.out.mem_iff.2 (List.mem_map.2 ⟨p, hp, rfl⟩)), HX1.out] at hIr
      have hKr : Kp I.X w1 wr := hK4.trans (hKe.weaken (fun i _ hi => by simp only [List.mem_singleton] at hi; subst hi; exact hem))
      have hlr := hl4.keep hKe (fun i hi _ => by simp only [List.mem_singleton] at hi; subst hi; exact hem)
      have hO5 := (HO.out.keep (k3.trans k4) (fun _ h => by cases h) (fun _ h => by cases h)).keep hKe (fun i hi _ => by simp only [List.mem_singleton] at hi; subst hi; exact hem) (fun i hi _ => by simp only [List.mem_singleton] at hi; subst hi; have := hlts _ hem; omega)
      have HO5 := Lib.hid hO5
      clear hn hO5
      go_wp2_with fail
      refine (ilay hfm ⟨x2, x3, x4, lx⟩ (.slice la lx.length lc) _ _ hIr hvo hlr.at).mono ?_
      rintro e w9 ⟨rfl, hI9, k9⟩
      have hO9 := (HO5.out.keep k9 (fun i hi _ => hi) (fun i hi _ => by have := hlts _ hi; omega)).base (b' := w.heap.size) (by omega)
      have hK9 : Kp I.X w w9 := (k1.weaken (fun _ _ h => by cases h)).trans (hKr.trans k9)
      have HO9 := Lib.hid hO9
      have HI9 := Lib.hid hI9
      have HK9 := Lib.hid hK9
      clear hO9 hI9 hK9
      go_wp2_with fail
      go_ret
      exact ⟨_, rfl, HO9.out, HI9.out, HK9.out⟩
end Go.Proofs.YtdhhddifmkijhaaGreat
