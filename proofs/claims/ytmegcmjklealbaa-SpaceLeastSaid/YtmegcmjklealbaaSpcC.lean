/-
  What the program's space does, call by call: All, and what it gives back by a defer.
-/
import Derived.Test.YtmegcmjklealbaaSpcB
import Derived.Test.YtmegcmjklealbaaSlc
import Derived.Defers
import Derived.Deep.MidRow
namespace Go.Proofs.Ytmegcmjklealbaa
open Go.RowKit

theorem SpaceAt.words {w : World} {b : Nat} {f : Int → Int → Bool} (h : SpaceAt w b f) : ∃ cs : List Value, cs.length = 12 ∧ (∀ v ∈ cs, v.oneCell' = true) ∧ w.heap[b]? = some (.cells cs.toArray 52 (0, 0)) ∧
    ∀ (w' : World) (b' : Nat), w'.heap[b']? = some (.cells cs.toArray 52 (0, 0)) → SpaceAt w' b' f := by
  obtain ⟨xs, hx, hb⟩ := h
  refine ⟨xs.map fun x : Nat => Value.int .u64 (x : Int), by simp [hx.1], fun v hv => ?_, hb, fun w' b' h' => ⟨xs, hx, h'⟩⟩
  obtain ⟨x, -, rfl⟩ := List.mem_map.1 hv
  rfl

theorem give_back_idle (be bw bs bl : Nat) (w : World) (he : w.cell? ⟨be, 0, none⟩ = some (.int .i64 0)) :
    CallsD Try.prog 27 #[.pointer (some ⟨be, 0, none⟩), .pointer (some ⟨bw, 0, none⟩), .pointer (some ⟨bs, 0, none⟩), .pointer (some ⟨bl, 0, none⟩)] .returning w fun e u' w' => u' = .returning ∧ (e = .returned (.tuple #[]) ∧ w' = w) := by
  go_enter_d Try.func27, Try.ntmps27
  go_wp2
  go_end0
  exact ⟨rfl, rfl⟩

theorem give_back (be bw bs bl b : Nat) (k : Int) (f : Int → Int → Bool) (v : Value) (w : World) (hne : (k != 0) = true) (he : w.cell? ⟨be, 0, none⟩ = some (.int .i64 k))
    (hs : w.cell? ⟨bs, 0, none⟩ = some (.pointer (some ⟨b, 0, none⟩))) (hw : SpaceAt w bw f) (hb : ∃ g, SpaceAt w b g) (hl : w.cell? ⟨bl, 0, none⟩ = some v) (hlf : w.frozen? ⟨bl, 0, none⟩ = false)
    (hbl : bl ≠ b) (hbe : be ≠ b) (hel : be ≠ bl) :
    CallsD Try.prog 27 #[.pointer (some ⟨be, 0, none⟩), .pointer (some ⟨bw, 0, none⟩), .pointer (some ⟨bs, 0, none⟩), .pointer (some ⟨bl, 0, none⟩)] .returning w fun e u' w' => u' = .returning ∧ (e = .returned (.tuple #[]) ∧
      Kp [b, bl] w w' ∧ SpaceAt w' b f ∧ w'.cell? ⟨bl, 0, none⟩ = some (.slice none 0 0) ∧ w'.cell? ⟨be, 0, none⟩ = some (.int .i64 k)) := by
  obtain ⟨cs, hc1, hc2, hc3, hc4⟩ := hw.words
  obtain ⟨g, hg⟩ := hb
  obtain ⟨ds, hd1, hd2, hd3, hd4⟩ := hg.words
  have hr := range_block hc3
  have ht := there_block hd3
  have hsz : (Try.prog.info? 52).map (·.size) = some cs.length := by rw [hc1]; kernel_rfl
  have hsz2 : (Try.prog.info? 52).map (·.size) = some cs.toArray.size := by rw [List.size_toArray, hc1]; kernel_rfl
  go_enter_d Try.func27, Try.ntmps27
  have hsz3 : ds.toArray.size = cs.toArray.size := by rw [List.size_toArray, List.size_toArray, hc1, hd1]
  rw [hsz3] at ht
  have hall := all_oneCell_toArray hc2
  have HB := Lib.hid (setCells_whole hd3 (vs := cs) (by simpa using hsz3.symm))
  have hbe' : be ≠ b := hbe
  have k1 : Kp [b, bl] w (w.setCells b 0 cs) := Kp.setCells (.inl (by simp)) _ _ (Kp.refl _ _)
  have k2 : Kp [b] w (w.setCells b 0 cs) := Kp.setCells (.inl (by simp)) _ _ (Kp.refl _ _)
  have l1 : (w.setCells b 0 cs).cell? ⟨bl, 0, none⟩ = some v := (k2.cell (lt_of_cell hl) (by simpa using hbl)).trans hl
  have l2 : (w.setCells b 0 cs).frozen? ⟨bl, 0, none⟩ = false := (k2.frozen (lt_of_cell hl) (by simpa using hbl)).trans hlf
  have l3 : (w.setCells b 0 cs).cell? ⟨be, 0, none⟩ = some (.int .i64 k) := (k2.cell (lt_of_cell he) (by simpa using hbe)).trans he
  clear hc1 hc2 hc3 hd1 hd2 hd3 hd4 hsz3
  go_wp2_with (first | (refine wpList_load_mid rfl 52 (.tmp 1) rfl bw 0 rfl cs _ hr Try.underlying52 rfl hsz ?_) | (refine wpList_store_mid rfl 52 (.tmp 8) (.tmp 7) rfl b 0 cs.toArray rfl rfl ht hsz2 hall ?_))
  go_end0
  refine ⟨by trivial, k1.setCell (.inl (by simp)) _, hc4 _ _ ?_, ?_, ?_⟩
  · exact (Below.heap_setCell _ _ _ _ (Ne.symm hbl)).trans HB.out
  · exact World.cell?_setCell_same _ _ _ l1
  · rw [World.cell?_setCell_other _ _ _ _ (fun h => hel (by simp only [Addr.mk.injEq] at h; exact h.1.symm))]; exact l3

abbrev Pairs (l : List (Int × Int)) : List Value := l.flatMap fun p => [.int .i64 p.1, .int .i64 p.2]
/-- All, from a place on -/
def allGo (f0 : Int → Int → Bool) : (Int → Int → Bool) → List Int → List (Int × Int) → List (Int × Int) × Int × (Int → Int → Bool)
  | f, [], acc => (acc, 0, f)
  | f, d :: xs, acc => if (takeR f d).2 = 0 then allGo f0 (takeF f d) xs (acc ++ [(d, (takeR f d).1)]) else ([], (takeR f d).2, f0)

theorem all_nil (v : Value) (w : World) :
    Calls Try.prog 19 #[.pointer none, v] w fun e w' => e = .returned (.tuple #[.slice none 0 0, .int .i64 1]) ∧ Kp [] w w' := by
  go_enter_defers Try.func19, Try.ntmps19
  go_wp2
  simp [bodyPostD, Leaves, settle, results, go_sem, Try.results19]
  exact (((Kp.refl _ _).alloc _).alloc _).alloc _

theorem Try.info31 : (Try.prog.info? 31).map (fun i => (i.zero, i.size, i.bytes)) = some (some (.agg #[.int .i64 0, .int .i64 0]), 2, 16) := by kernel_rfl

/-- what the loop of All knows of a world -/
structure AllAt (w wr : World) (b : Nat) (f0 f : Int → Int → Bool) (v : Value) (acc : List (Int × Int)) : Prop where
  s : wr.cell? ⟨w.heap.size, 0, none⟩ = some (.pointer (some ⟨b, 0, none⟩))
  l : wr.cell? ⟨w.heap.size + 1, 0, none⟩ = some v
  lf : wr.frozen? ⟨w.heap.size + 1, 0, none⟩ = false
  e : wr.cell? ⟨w.heap.size + 2, 0, none⟩ = some (.int .i64 0)
  ef : wr.frozen? ⟨w.heap.size + 2, 0, none⟩ = false
  was : SpaceAt wr (w.heap.size + 3) f0
  now : SpaceAt wr b f
  own : wr.ownsRow (w.heap.size + 4) 31 2 v acc.length (Pairs acc)
  keep : Kp [b] w wr
  size : w.heap.size + 4 ≤ wr.heap.size
  lt : b < w.heap.size
theorem AllAt.call {w wr w2 : World} {b : Nat} {f0 f f' : Int → Int → Bool} {v : Value} {acc : List (Int × Int)} (h : AllAt w wr b f0 f v acc) (k : Kp [b] wr w2) (hs : SpaceAt w2 b f') : AllAt w w2 b f0 f' v acc := by
  have hb := h.lt
  exact ⟨(k.cell (lt_of_cell h.s) (by simp; omega)).trans h.s, (k.cell (lt_of_cell h.l) (by simp; omega)).trans h.l, (k.frozen (lt_of_cell h.l) (by simp; omega)).trans h.lf,
    (k.cell (lt_of_cell h.e) (by simp; omega)).trans h.e, (k.frozen (lt_of_cell h.e) (by simp; omega)).trans h.ef, h.was.keep k (by simp; omega), hs,
    ownsRow_keep h.own k (fun i hi => by simp; omega), h.keep.trans k, Nat.le_trans h.size k.size, hb⟩

theorem AllAt.append {w w2 w3 : World} {b : Nat} {f0 f : Int → Int → Bool} {v v' : Value} {acc : List (Int × Int)} {d n : Int} {o : Obj} (h : AllAt w w2 b f0 f v acc)
    (hown : w3.ownsRow (w.heap.size + 4) 31 2 v' (acc.length + 1) (Pairs acc ++ [.int .i64 d, .int .i64 n])) (hg : (w2.alloc o).grownBy w3 v.ownBlock) :
    AllAt w (w3.setCell ⟨w.heap.size + 1, 0, none⟩ v') b f0 f v' (acc ++ [(d, n)]) := by
  have hlt := h.lt
  have hge := own_block_ge h.own
  have k3 : Kp (v.ownBlock.toList ++ [w.heap.size + 1]) w2 (w3.setCell ⟨w.heap.size + 1, 0, none⟩ v') :=
    ((((Kp.refl _ w2).alloc o).step (Kp.of_grown hg) (fun i _ hi => List.mem_append_left _ hi))).setCell (.inl (by simp)) _
  have hx : ∀ i, i < w.heap.size + 4 → i ≠ w.heap.size + 1 → i ∉ v.ownBlock.toList ++ [w.heap.size + 1] := by
    intro i hi hne hm
    simp only [List.mem_append, Option.mem_toList, List.mem_singleton, Option.mem_def] at hm
    rcases hm with hm | hm
    · have := hge i hm; omega
    · exact hne hm
  have k33 : Kp v.ownBlock.toList w2 w3 := ((Kp.refl _ w2).alloc o).trans (Kp.of_grown hg)
  have hl3 : w3.cell? ⟨w.heap.size + 1, 0, none⟩ = some v := (k33.cell (lt_of_cell h.l) (fun hm => by
    simp only [Option.mem_toList, Option.mem_def] at hm
    have := hge _ hm; omega)).trans h.l
  refine ⟨(k3.cell (lt_of_cell h.s) (hx _ (by simp) (by simp))).trans h.s, World.cell?_setCell_same _ _ _ hl3, ?_, (k3.cell (lt_of_cell h.e) (hx _ (by simp) (by simp))).trans h.e,
    (k3.frozen (lt_of_cell h.e) (hx _ (by simp) (by simp))).trans h.ef, h.was.keep k3 (hx _ (by simp) (by simp)), h.now.keep k3 (hx _ (by omega) (by omega)), ?_, ?_, Nat.le_trans h.size k3.size, hlt⟩
  · rw [World.frozen?_setCell]
    exact (k33.frozen (lt_of_cell h.l) (fun hm => by
      simp only [Option.mem_toList, Option.mem_def] at hm
      have := hge _ hm; omega)).trans h.lf
  · have e1 : (acc ++ [(d, n)]).length = acc.length + 1 := by simp
    have e2 : Pairs (acc ++ [(d, n)]) = Pairs acc ++ [.int .i64 d, .int .i64 n] := by simp [Pairs]
    rw [e1, e2]
    exact ownsRow_keep (X := [w.heap.size + 1]) hown ((Kp.refl _ _).setCell (.inl (by simp)) _) (fun i hi => by simp; omega)
  · refine h.keep.step k3 (fun i hi hm => ?_)
    simp only [List.mem_append, Option.mem_toList, List.mem_singleton, Option.mem_def] at hm
    rcases hm with hm | hm
    · have := hge i hm; omega
    · omega

theorem AllAt.append_l {w w2 w3 : World} {b : Nat} {f0 f : Int → Int → Bool} {v : Value} {acc : List (Int × Int)} {o : Obj} (h : AllAt w w2 b f0 f v acc) (hg : (w2.alloc o).grownBy w3 v.ownBlock) :
    w3.cell? ⟨w.heap.size + 1, 0, none⟩ = some v ∧ w3.frozen? ⟨w.heap.size + 1, 0, none⟩ = false := by
  have hge := own_block_ge h.own
  have k33 : Kp v.ownBlock.toList w2 w3 := ((Kp.refl _ w2).alloc o).trans (Kp.of_grown hg)
  have hx : w.heap.size + 1 ∉ v.ownBlock.toList := fun hm => by
    simp only [Option.mem_toList, Option.mem_def] at hm
    have := hge _ hm; omega
  exact ⟨(k33.cell (lt_of_cell h.l) hx).trans h.l, (k33.frozen (lt_of_cell h.l) hx).trans h.lf⟩

/-- the world in which All has failed, ahead of what it gives back -/
theorem AllAt.failed {w w2 : World} {b : Nat} {f0 f : Int → Int → Bool} {v : Value} {acc : List (Int × Int)} (h : AllAt w w2 b f0 f v acc) (r : Int) :
    let W := (w2.setCell ⟨w.heap.size + 1, 0, none⟩ (.slice none 0 0)).setCell ⟨w.heap.size + 1 + 1, 0, none⟩ (.int .i64 r)
    W.cell? ⟨w.heap.size + 2, 0, none⟩ = some (.int .i64 r) ∧ W.cell? ⟨w.heap.size, 0, none⟩ = some (.pointer (some ⟨b, 0, none⟩)) ∧ SpaceAt W (w.heap.size + 3) f0 ∧ (∃ g, SpaceAt W b g) ∧
      W.cell? ⟨w.heap.size + 1, 0, none⟩ = some (.slice none 0 0) ∧ W.frozen? ⟨w.heap.size + 1, 0, none⟩ = false ∧ Kp [b] w W ∧ w.heap.size + 4 ≤ W.heap.size := by
  intro W
  have hlt := h.lt
  have k : Kp [w.heap.size + 1, w.heap.size + 2] w2 W := ((Kp.refl _ w2).setCell (.inl (by simp)) _).setCell (.inl (by simp)) _
  have e1 : (w2.setCell ⟨w.heap.size + 1, 0, none⟩ (.slice none 0 0)).cell? ⟨w.heap.size + 2, 0, none⟩ = some (.int .i64 0) := by
    rw [World.cell?_setCell_other _ _ _ _ (by simp)]; exact h.e
  refine ⟨World.cell?_setCell_same _ _ _ e1, (k.cell (lt_of_cell h.s) (by simp)).trans h.s, h.was.keep k (by simp), ⟨f, h.now.keep k (by simp; omega)⟩, ?_, ?_, ?_, Nat.le_trans h.size k.size⟩
  · show ((w2.setCell ⟨w.heap.size + 1, 0, none⟩ (.slice none 0 0)).setCell ⟨w.heap.size + 1 + 1, 0, none⟩ (.int .i64 r)).cell? _ = _
    rw [World.cell?_setCell_other _ _ _ _ (by simp)]
    exact World.cell?_setCell_same _ _ _ h.l
  · show ((w2.setCell ⟨w.heap.size + 1, 0, none⟩ (.slice none 0 0)).setCell ⟨w.heap.size + 1 + 1, 0, none⟩ (.int .i64 r)).frozen? _ = _
    rw [World.frozen?_setCell, World.frozen?_setCell]; exact h.lf
  · exact (h.keep.setCell (.inr (by simp)) _).setCell (.inr (by simp; omega)) _

theorem AllAt.done {w w2 : World} {b : Nat} {f0 f : Int → Int → Bool} {v : Value} {acc : List (Int × Int)} (h : AllAt w w2 b f0 f v acc) :
    let W := (w2.setCell ⟨w.heap.size + 1, 0, none⟩ v).setCell ⟨w.heap.size + 1 + 1, 0, none⟩ (.int .i64 0)
    W.cell? ⟨w.heap.size + 2, 0, none⟩ = some (.int .i64 0) ∧ W.cell? ⟨w.heap.size + 1, 0, none⟩ = some v ∧ Kp [b] w W ∧ SpaceAt W b f ∧ W.ownsRow (w.heap.size + 4) 31 2 v acc.length (Pairs acc) := by
  intro W
  have hlt := h.lt
  have k : Kp [w.heap.size + 1, w.heap.size + 2] w2 W := ((Kp.refl _ w2).setCell (.inl (by simp)) _).setCell (.inl (by simp)) _
  have e1 : (w2.setCell ⟨w.heap.size + 1, 0, none⟩ v).cell? ⟨w.heap.size + 2, 0, none⟩ = some (.int .i64 0) := by
    rw [World.cell?_setCell_other _ _ _ _ (by simp)]; exact h.e
  refine ⟨World.cell?_setCell_same _ _ _ e1, ?_, (h.keep.setCell (.inr (by simp)) _).setCell (.inr (by simp; omega)) _, h.now.keep k (by simp; omega), ownsRow_keep h.own k (fun i hi => by simp; omega)⟩
  show ((w2.setCell ⟨w.heap.size + 1, 0, none⟩ v).setCell ⟨w.heap.size + 1 + 1, 0, none⟩ (.int .i64 0)).cell? _ = _
  rw [World.cell?_setCell_other _ _ _ _ (by simp)]
  exact World.cell?_setCell_same _ _ _ h.l

theorem allAt_start (w : World) (b : Nat) (f : Int → Int → Bool) (cs zs : List Value) (hlt : b < w.heap.size) (hsp : SpaceAt w b f) (hzs : cs.length = zs.length) (hc4 : ∀ (w' : World) (b' : Nat), w'.heap[b']? = some (.cells cs.toArray 52 (0, 0)) → SpaceAt w' b' f) :
    AllAt w ((((((w.alloc (.cells #[.pointer (some ⟨b, 0, none⟩)] 24)).alloc (.cells #[.slice none 0 0] 27)).alloc (.cells #[.int .i64 0] 39)).alloc (.cells zs.toArray 52))).setCells (w.heap.size + 3) 0 cs) b f f (.slice none 0 0) [] := by
  have k : Kp [w.heap.size + 3] ((((w.alloc (.cells #[.pointer (some ⟨b, 0, none⟩)] 24)).alloc (.cells #[.slice none 0 0] 27)).alloc (.cells #[.int .i64 0] 39)).alloc (.cells zs.toArray 52)) _ := Kp.setCells (b := w.heap.size + 3) (.inl (by simp)) cs 0 (Kp.refl _ _)
  have h0 : ((((w.alloc (.cells #[.pointer (some ⟨b, 0, none⟩)] 24)).alloc (.cells #[.slice none 0 0] 27)).alloc (.cells #[.int .i64 0] 39)).alloc (.cells zs.toArray 52)).heap[w.heap.size]? = some (.cells #[.pointer (some ⟨b, 0, none⟩)] 24) := block_alloc (block_alloc (block_alloc (block_new _ _) _) _) _
  have h1 : ((((w.alloc (.cells #[.pointer (some ⟨b, 0, none⟩)] 24)).alloc (.cells #[.slice none 0 0] 27)).alloc (.cells #[.int .i64 0] 39)).alloc (.cells zs.toArray 52)).heap[w.heap.size + 1]? = some (.cells #[.slice none 0 0] 27) := by
    refine block_alloc (block_alloc ?_ _) _
    have := block_new (w.alloc (.cells #[.pointer (some ⟨b, 0, none⟩)] 24)) (.cells #[.slice none 0 0] 27)
    simpa using this
  have h2 : ((((w.alloc (.cells #[.pointer (some ⟨b, 0, none⟩)] 24)).alloc (.cells #[.slice none 0 0] 27)).alloc (.cells #[.int .i64 0] 39)).alloc (.cells zs.toArray 52)).heap[w.heap.size + 2]? = some (.cells #[.int .i64 0] 39) := by
    refine block_alloc ?_ _
    have := block_new ((w.alloc (.cells #[.pointer (some ⟨b, 0, none⟩)] 24)).alloc (.cells #[.slice none 0 0] 27)) (.cells #[.int .i64 0] 39)
    simpa using this
  have h3 : ((((w.alloc (.cells #[.pointer (some ⟨b, 0, none⟩)] 24)).alloc (.cells #[.slice none 0 0] 27)).alloc (.cells #[.int .i64 0] 39)).alloc (.cells zs.toArray 52)).heap[w.heap.size + 3]? = some (.cells zs.toArray 52 (0, 0)) := by
    have := block_new (((w.alloc (.cells #[.pointer (some ⟨b, 0, none⟩)] 24)).alloc (.cells #[.slice none 0 0] 27)).alloc (.cells #[.int .i64 0] 39)) (.cells zs.toArray 52)
    simpa using this
  have g0 := Kp.blockAt (X := [w.heap.size + 3]) h0 (by simp) _ k
  have g1 := Kp.blockAt (X := [w.heap.size + 3]) h1 (by simp) _ k
  have g2 := Kp.blockAt (X := [w.heap.size + 3]) h2 (by simp) _ k
  have kk : Kp [] w _ := ((((Kp.refl [] w).alloc (.cells #[.pointer (some ⟨b, 0, none⟩)] 24)).alloc (.cells #[.slice none 0 0] 27)).alloc (.cells #[.int .i64 0] 39)).alloc (.cells zs.toArray 52)
  have ks : Kp [] w (((((w.alloc (.cells #[.pointer (some ⟨b, 0, none⟩)] 24)).alloc (.cells #[.slice none 0 0] 27)).alloc (.cells #[.int .i64 0] 39)).alloc (.cells zs.toArray 52)).setCells (w.heap.size + 3) 0 cs) :=
    Kp.setCells (b := w.heap.size + 3) (.inr (by omega)) cs 0 kk
  exact ⟨cell_of_cells g0 rfl, cell_of_cells g1 rfl, frozen_of_cells g1 _, cell_of_cells g2 rfl, frozen_of_cells g2 _, hc4 _ _ (setCells_whole h3 (by simpa using hzs)), hsp.keep ks (by simp), World.ownsRow_nil _ _ _ _,
    ks.weaken (fun _ _ h => by cases h), (by have := k.size; simp at this; omega), hlt⟩

set_option maxHeartbeats 1000000 in
theorem all_any (b : Nat) (f : Int → Int → Bool) (v : Value) (xs : List Int) (w : World) (hsp : SpaceAt w b f) (B : Nat) (hx : SliceAt B w v 1 xs.length (xs.map (Value.int .i64))) (hsep : 0 < xs.length → ∀ b1 o c, v = .slice (some ⟨b1, o, none⟩) xs.length c → b1 ≠ b) (hlen : xs.length ≤ 60) :
    Calls Try.prog 19 #[.pointer (some ⟨b, 0, none⟩), v] w fun e w' => ∃ u : Value, e = .returned (.tuple #[u, .int .i64 (allGo f f xs []).2.1]) ∧ Kp [b] w w' ∧ SpaceAt w' b (allGo f f xs []).2.2 ∧
      w'.ownsRow w.heap.size 31 2 u (allGo f f xs []).1.length (Pairs (allGo f f xs []).1) := by
  have hmf : ∀ (fn : Fn) (first cap : Array Value) (w : World), (Instr.makeFunc fn first cap).run Try.prog w = .ok (.func fn first cap) w := fun _ _ _ _ => rfl
  have hlt := hsp.lt
  obtain ⟨cs, hc1, hc2, hc3, hc4⟩ := hsp.words
  have hr : ((((w.alloc (.cells #[.pointer (some ⟨b, 0, none⟩)] 24)).alloc (.cells #[.slice none 0 0] 27)).alloc (.cells #[.int .i64 0] 39))).rangeAt b 0 cs :=
    World.rangeAt_alloc (World.rangeAt_alloc (World.rangeAt_alloc (range_block hc3) _) _) _
  have hsz : (Try.prog.info? 52).map (·.size) = some cs.length := by rw [hc1]; kernel_rfl
  have hsz2 : (Try.prog.info? 52).map (·.size) = some cs.toArray.size := by rw [List.size_toArray, hc1]; kernel_rfl
  have hall := all_oneCell_toArray hc2
  obtain ⟨av, capv, rfl⟩ := slice_ex hx
  have ht : ((((w.alloc (.cells #[.pointer (some ⟨b, 0, none⟩)] 24)).alloc (.cells #[.slice none 0 0] 27)).alloc (.cells #[.int .i64 0] 39)).alloc
      (.cells #[.int .u64 0, .int .u64 0, .int .u64 0, .int .u64 0, .int .u64 0, .int .u64 0, .int .u64 0, .int .u64 0, .int .u64 0, .int .u64 0, .int .u64 0, .int .u64 0] 52)).there (w.heap.size + 3) 0 cs.toArray.size := by
    have h3 := block_new (((w.alloc (.cells #[.pointer (some ⟨b, 0, none⟩)] 24)).alloc (.cells #[.slice none 0 0] 27)).alloc (.cells #[.int .i64 0] 39))
      (.cells #[.int .u64 0, .int .u64 0, .int .u64 0, .int .u64 0, .int .u64 0, .int .u64 0, .int .u64 0, .int .u64 0, .int .u64 0, .int .u64 0, .int .u64 0, .int .u64 0] 52)
    have h4 := there_block h3
    have e12 : cs.toArray.size = 12 := by simp [hc1]
    rw [e12]
    simpa using h4
  have HS := Lib.hid (allAt_start w b f cs (List.replicate 12 (.int .u64 0)) hlt hsp (by rw [hc1]; rfl) hc4)
  clear hc1 hc2 hc3 hc4
  go_enter_defers Try.func19, Try.ntmps19
  go_wp2_with (first | (refine wpList_load_mid rfl 52 (.tmp 14) rfl b 0 rfl cs _ hr Try.underlying52 rfl hsz ?_) | (refine wpList_store_mid rfl 52 (.tmp 6) (.tmp 15) rfl (w.heap.size + 3) 0 cs.toArray rfl rfl ht hsz2 hall ?_))
  clear hr ht hsz hsz2 hall
  go_loopg [19] xs.length (fun g i wr => ∃ (k : Nat) (fk : Int → Int → Bool) (acc : List (Int × Int)) (u : Value), k + g = xs.length ∧ i = .int .i64 k ∧ AllAt w wr b f fk u acc ∧ acc.length = k ∧ allGo f f xs [] = allGo f fk (xs.drop k) acc)
  case atStart => exact ⟨0, f, [], .slice none 0 0, by omega, rfl, HS.out, rfl, rfl⟩
  case round =>
    obtain ⟨k, fk, acc, u, hk, rfl, hA, hacc, hgo⟩ := hrel
    have HGO := Lib.hid hgo
    have HK := Lib.hid hk
    have HAC := Lib.hid hacc
    have hsz := hA.size
    have hS := hA.s
    have hL := hA.l
    have hLf := hA.lf
    have hE := hA.e
    have hEf := hA.ef
    have hOwn := hA.own
    obtain ⟨au, cu, rfl⟩ := ownsRow_ex hOwn
    clear hgo hacc
    by_cases hlt : k < xs.length
    · obtain ⟨g', rfl⟩ : ∃ g', gk = g' + 1 := ⟨gk - 1, by omega⟩
      clear hk
      have hltI : (k : Int) < (xs.length : Int) := by omega
      obtain ⟨bv, ov, rfl, hcell⟩ : ∃ bv ov, av = some ⟨bv, ov, none⟩ ∧ wr.cell? ⟨bv, ov + k, none⟩ = some (.int .i64 xs[k]) := by
        obtain ⟨b1, o1, hv, -, -, hb2, hcell0⟩ := hx.cells (by omega)
        have hb1 : b1 ≠ b := hsep (by omega) b1 o1 capv (by rw [hv])
        have hcell : ∀ (j : Nat) (u : Value), (xs.map (Value.int .i64))[j]? = some u → wr.cell? ⟨b1, o1 + j, none⟩ = some u := fun j u hu => (hA.keep.cell hb2 (by simp; exact hb1)).trans (hcell0 j u hu)
        exact ⟨b1, o1, hv, hcell k (.int .i64 xs[k]) (by simp [hlt])⟩
      go_wp2_with fail
      refine (take_any b fk _ _ hA.now).mono ?_
      rintro e w2 ⟨rfl, k2, s2⟩
      have hB := hA.call k2 s2
      obtain ⟨r1, r2, hr⟩ : ∃ r1 r2, takeR fk xs[k] = (r1, r2) := ⟨_, _, rfl⟩
      have HR := Lib.hid hr
      rw [hr]
      clear hr k2 s2 hA hS hL hLf hE hEf hOwn hsz
      have hsz := hB.size
      have hS := hB.s
      have hL := hB.l
      have hLf := hB.lf
      have hE := hB.e
      have hEf := hB.ef
      have hOwn := hB.own
      have hdrop : xs.drop k = xs[k] :: xs.drop (k + 1) := by rw [List.drop_eq_getElem_cons hlt]
      have HD := Lib.hid hdrop
      clear hdrop
      by_cases he : r2 = 0
      · subst he
        obtain ⟨i0, hi, hz0, hz1, hz2⟩ := info_parts Try.info31
        have hac : acc.length ≤ 60 := by have := HAC.out; omega
        go_wp2_with (first | (at_builtin; refine wpList_append_own _ rfl (.tmp 32) (.tmp 36) 27 rfl (w.heap.size + 4) 31 i0 (.agg #[.int .i64 0, .int .i64 0]) 2 16 Try.underlying27 hi hz0 hz1 hz2 rfl (by decide) _ _ _ rfl (hOwn.alloc _) ⟨w2.heap.size, 0, none⟩ 1 1 [.int .i64 xs[k], .int .i64 r1] rfl rfl (new_cells _ _ _) (one_cells2 rfl rfl) (by unfold maxLen; omega) (by omega) (by simp; omega) ?_))
        intro v' w3 hown' hgrow _
        obtain ⟨av', cv', rfl⟩ := ownsRow_ex hown'
        have HC := Lib.hid (AllAt.append hB hown' hgrow)
        obtain ⟨hL3, hLf3⟩ := AllAt.append_l hB hgrow
        clear hown' hgrow hOwn hS hL hLf hE hEf hB
        go_wp2_with fail
        go_roundg g'
        case rel =>
          have hk := HK.out
          have hac := HAC.out
          have hgo := HGO.out
          have hr := HR.out
          refine ⟨k + 1, _, _, _, by omega, by go_num, HC.out, by simp [hac], ?_⟩
          rw [hgo, HD.out]
          show (if (takeR fk xs[k]).2 = 0 then _ else _) = _
          rw [hr, if_pos rfl]
        case measure => omega
      · have hne : (r2 != 0) = true := by simpa using he
        have HNE := Lib.hid he
        have HB := Lib.hid hB
        clear he hB
        go_wp2_with fail
        refine leaves_cons (f := 27) (args := #[.pointer (some ⟨w.heap.size + 2, 0, none⟩), .pointer (some ⟨w.heap.size + 3, 0, none⟩), .pointer (some ⟨w.heap.size, 0, none⟩), .pointer (some ⟨w.heap.size + 1, 0, none⟩)]) (by simp) (by simp [go_sem]) ?_
        obtain ⟨f1, f2, f3, f4, f5, f6, f7, f8⟩ := HB.out.failed r2
        refine (give_back _ _ _ _ b r2 f (.slice none 0 0) _ hne f1 f2 f3 f4 f5 f6 (by have := HB.out.lt; omega) (by have := HB.out.lt; omega) (by omega)).mono ?_
        rintro e u' w4 ⟨rfl, rfl, k4, s4, l4, e4⟩
        have hgo : allGo f f xs [] = ([], r2, f) := by
          rw [HGO.out, HD.out]
          show (if (takeR fk xs[k]).2 = 0 then _ else _) = _
          rw [HR.out, if_neg HNE.out]
        refine ⟨.tuple #[.slice none 0 0, .int .i64 r2], ?_, .slice none 0 0, ?_, ?_, ?_, ?_⟩
        · simp [results, Try.results19, l4, e4, go_sem]
        · rw [hgo]
        · refine f7.step k4 (fun i hi hm => ?_)
          simp only [List.mem_cons, List.not_mem_nil, or_false] at hm ⊢
          omega
        · rw [hgo]; exact s4
        · rw [hgo]; exact World.ownsRow_nil _ _ _ _
    · obtain rfl : k = xs.length := by omega
      obtain rfl : gk = 0 := by omega
      clear hk
      have HA := Lib.hid hA
      clear hA
      go_wp2_with fail
      refine leaves_cons (f := 27) (args := #[.pointer (some ⟨w.heap.size + 2, 0, none⟩), .pointer (some ⟨w.heap.size + 3, 0, none⟩), .pointer (some ⟨w.heap.size, 0, none⟩), .pointer (some ⟨w.heap.size + 1, 0, none⟩)]) (by simp) (by simp [go_sem]) ?_
      obtain ⟨f1, f2, f3, f4, f5⟩ := HA.out.done
      refine (give_back_idle _ _ _ _ _ f1).mono ?_
      rintro e u' w4 ⟨rfl, rfl, rfl⟩
      have hgo : allGo f f xs [] = (acc, 0, fk) := by rw [HGO.out, List.drop_length]; rfl
      refine ⟨.tuple #[.slice au acc.length cu, .int .i64 0], ?_, .slice au acc.length cu, ?_, f3, ?_, ?_⟩
      · simp [results, Try.results19, f1, f2, go_sem]
      · rw [hgo]
      · rw [hgo]; exact f4
      · rw [hgo]; exact ownsRow_base f5 (by omega)
end Go.Proofs.Ytmegcmjklealbaa
