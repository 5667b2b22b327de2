/-
  A digest's block.
-/
import Derived.Test.YtlomniffpjndfaaDoorMdS
namespace Go.Proofs.YtlomniffpjndfaaDoor
open Go.RowKit Go.WideShapes

def byteI (b : ByteArray) (j : Nat) : Int := ((b.data.toList.getD j 0).toNat : Int)
/-- a word, byte by byte -/
def part (b : ByteArray) (i : Nat) : Nat → Int
  | 0 => 0
  | k + 1 => bits BinOp.or .u32 (IntKind.u32.wrap (part b i k * 256)) (IntKind.u32.wrap (byteI b (4 * i + k)))
def sg0 (x : Int) : Int := bits BinOp.xor .u32 (bits BinOp.xor .u32 (rotr x 7) (rotr x 18)) (x / 8)
def sg1 (x : Int) : Int := bits BinOp.xor .u32 (bits BinOp.xor .u32 (rotr x 17) (rotr x 19)) (x / 1024)
def schedN (l : List Int) (i : Nat) : Int := IntKind.u32.wrap (IntKind.u32.wrap (IntKind.u32.wrap (l.getD (i - 16) 0 + l.getD (i - 7) 0) + sg0 (l.getD (i - 15) 0)) + sg1 (l.getD (i - 2) 0))
def sched (b : ByteArray) : Nat → List Int
  | 0 => []
  | n + 1 => sched b n ++ [if n < 16 then part b n 4 else schedN (sched b n) n]
theorem sched_len (b : ByteArray) : ∀ n, (sched b n).length = n
  | 0 => rfl
  | n + 1 => by simp [sched, sched_len b n]
theorem exec_load_row {P : Program} {a : Act} {o : Oper} {W : World} {ty : TypeId} {x : Operand} {g : Nat} {t : TypeId} {cs : Array Value} {fr : Nat × Nat} {d : TypeDesc} (ho : o.op = .load ty x) (hx : a.eval x = .pointer (some ⟨g, 0, none⟩)) (hg : W.heap[g]? = some (.cells cs t fr))
    (hu : P.underlying ty = some d) (hd : (match d with | .struct _ | .array _ _ => true | _ => false) = true) (hi : (P.info? ty).map (·.size) = some cs.size) : (execOp a.eval o).run P W = .ok (.value (.agg cs)) W := by
  unfold execOp
  simp only [ho, hx, Instr.loadAt, Instr.sureAddr, Sem.run_bind, Sem.run_pure, Result.andThen_ok, run_loadVar_row W g t ty cs fr d hg hu hd hi]
/-- the words so far, and noughts -/
def wArr (b : ByteArray) (n : Nat) (x : Int) : List Int := sched b n ++ x :: List.replicate (63 - n) 0
theorem wArr_len (b : ByteArray) (n : Nat) (x : Int) (h : n < 64) : (wArr b n x).length = 64 := by simp [wArr, sched_len]; omega
theorem wArr_at (b : ByteArray) (n : Nat) (x : Int) : (wArr b n x)[n]? = some x := by
  unfold wArr
  rw [List.getElem?_append_right (by rw [sched_len]; exact Nat.le_refl _), sched_len]
  simp
theorem byteI_get (b : ByteArray) (j : Nat) (h : j < b.size) : ((b[j]'h).toNat : Int) = byteI b j := by
  unfold byteI
  rw [List.getD_eq_getElem?_getD, List.getElem?_eq_getElem (by simpa using h)]
  rfl
theorem wArr_set (b : ByteArray) (n : Nat) (x y : Int) : (wArr b n x).set n y = wArr b n y := by
  unfold wArr
  rw [List.set_append_right _ _ (by rw [sched_len]; exact Nat.le_refl _), sched_len]
  simp
theorem wArr_old (b : ByteArray) (n i : Nat) (x : Int) (h : i < n) : (wArr b n x)[i]? = some ((sched b n).getD i 0) := by
  unfold wArr
  rw [List.getElem?_append_left (by rw [sched_len]; exact h), List.getD_eq_getElem?_getD, List.getElem?_eq_getElem (by rw [sched_len]; exact h)]; rfl
theorem uV_cell' {w : World} {g : Nat} {l : List Int} {t : TypeId} (h : w.heap[g]? = some (.cells (uV l) t (0, 0))) (i : Nat) (x : Int) (hx : l[i]? = some x) : w.cell? ⟨g, i, none⟩ = some (.int .u32 x) :=
  cell_of_cells h (by unfold uV; simp [hx])
def wAll (b : ByteArray) (n : Nat) : List Int := sched b n ++ List.replicate (64 - n) 0
theorem wAll_arr (b : ByteArray) (n : Nat) (h : n < 64) : wAll b n = wArr b n 0 := by
  unfold wAll wArr
  rw [show 64 - n = (63 - n) + 1 by omega, List.replicate_succ]
theorem wAll_old (b : ByteArray) (n i : Nat) (hn : n < 64) (h : i < n) : (wAll b n)[i]? = some ((sched b n).getD i 0) := by rw [wAll_arr b n hn]; exact wArr_old b n i 0 h
theorem wAll_next (b : ByteArray) (n : Nat) (h : n < 64) (x : Int) (hx : x = if n < 16 then part b n 4 else schedN (sched b n) n) : wArr b n x = wAll b (n + 1) := by
  unfold wAll wArr
  rw [show 63 - n = 64 - (n + 1) by omega]
  simp [sched, hx]
def bs0 (a : Int) : Int := bits BinOp.xor .u32 (bits BinOp.xor .u32 (rotr a 2) (rotr a 13)) (rotr a 22)
def bs1 (e : Int) : Int := bits BinOp.xor .u32 (bits BinOp.xor .u32 (rotr e 6) (rotr e 11)) (rotr e 25)
def chF (e f g : Int) : Int := bits BinOp.xor .u32 g (bits BinOp.and .u32 e (bits BinOp.xor .u32 f g))
def majF (a b c : Int) : Int := bits BinOp.or .u32 (bits BinOp.and .u32 a b) (bits BinOp.and .u32 c (bits BinOp.or .u32 a b))
def tF (e f g h k w : Int) : Int := IntKind.u32.wrap (IntKind.u32.wrap (IntKind.u32.wrap (IntKind.u32.wrap (h + bs1 e) + chF e f g) + k) + w)
def uF (a b c : Int) : Int := IntKind.u32.wrap (bs0 a + majF a b c)
/-- one round -/
def rnd (v : List Int) (k w : Int) : List Int := match v with
  | [a, b, c, d, e, f, g, h] => [IntKind.u32.wrap (tF e f g h k w + uF a b c), a, b, c, IntKind.u32.wrap (d + tF e f g h k w), e, f, g]
  | v => v
def rounds (b : ByteArray) (s : List Int) : Nat → List Int
  | 0 => s
  | n + 1 => rnd (rounds b s n) (kList.getD n 0) ((sched b 64).getD n 0)
theorem wAll_64 (b : ByteArray) (n : Nat) (h : n < 64) : (wAll b 64)[n]? = some ((sched b 64).getD n 0) := by
  unfold wAll
  rw [List.getElem?_append_left (by rw [sched_len]; exact h), List.getD_eq_getElem?_getD, List.getElem?_eq_getElem (by rw [sched_len]; exact h)]; rfl
theorem kList_at (n : Nat) (h : n < 64) : kList[n]? = some (kList.getD n 0) := by
  rw [List.getD_eq_getElem?_getD, List.getElem?_eq_getElem (show n < kList.length from h)]; rfl
theorem eight {s : List Int} (h : s.length = 8) : ∃ a b c d e f g i, s = [a, b, c, d, e, f, g, i] := by
  match s, h with
  | [a, b, c, d, e, f, g, i], _ => exact ⟨a, b, c, d, e, f, g, i, rfl⟩
/-- the first i words added -/
def addL (s V : List Int) (i : Nat) : List Int := (List.zipWith (fun x y => IntKind.u32.wrap (x + y)) s V).take i ++ s.drop i
theorem addL_at {s V : List Int} (hs : s.length = 8) (hV : V.length = 8) (i : Nat) (h : i < 8) : (addL s V i)[i]? = some (s.getD i 0) ∧ V[i]? = some (V.getD i 0) ∧ (addL s V i).set i (IntKind.u32.wrap (s.getD i 0 + V.getD i 0)) = addL s V (i + 1) := by
  obtain ⟨a, b, c, d, e, f, g, j, rfl⟩ := eight hs
  obtain ⟨a', b', c', d', e', f', g', j', rfl⟩ := eight hV
  match i, h with
  | 0, _ | 1, _ | 2, _ | 3, _ | 4, _ | 5, _ | 6, _ | 7, _ => exact ⟨rfl, rfl, rfl⟩
theorem addL_len {s V : List Int} (hs : s.length = 8) (hV : V.length = 8) (i : Nat) (h : i ≤ 8) : (addL s V i).length = 8 := by
  unfold addL
  rw [List.length_append, List.length_take, List.length_zipWith, List.length_drop]
  omega
/-- the state behind one more block -/
def blockF (b : ByteArray) (s : List Int) : List Int := addL s (rounds b s 64) 8
def WAt (b : ByteArray) (n g : Nat) (w W : World) : Prop := Kp [g] w W ∧ W.heap[g]? = some (.cells (uV (wAll b n)) 129 (0, 0))
theorem wAt_step {b : ByteArray} {n g : Nat} {w W : World} (hn : n < 64) (h16 : ¬ n < 16) (h : w.heap[g]? = some (.cells (uV (wArr b n 0)) 129 (0, 0))) (k : Kp [] w W) {y : Int} (hy : y = schedN (sched b n) n) : WAt b (n + 1) g w (W.setCell ⟨g, n, none⟩ (.int .u32 y)) := by
  refine ⟨(k.weaken (fun _ _ h => by cases h)).setCell (.inl (by simp)) _, ?_⟩
  have h1 := uV_set ((k.block g (lt_of_block h) (by simp)).trans h) n y
  rw [wArr_set, wAll_next b n hn y (by rw [if_neg h16]; exact hy)] at h1
  exact h1
set_option maxHeartbeats 4000000 in
set_option maxRecDepth 20000 in
theorem dblock (s : List Int) (hs : s.length = 8) (b : ByteArray) (hb : b.size = 64) (w : World) : Calls Tryd.prog 75 #[.agg (uV s), .string b] w fun e w' => e = .returned (.agg (uV (blockF b s))) ∧ (blockF b s).length = 8 ∧ Kp [] w w' := by
  obtain ⟨wa, hwa⟩ : ∃ wa, wa = w.alloc (.cells (uV s) 107) := ⟨_, rfl⟩
  have ba : wa.heap[w.heap.size]? = some (.cells (uV s) 107 (0, 0)) := by rw [hwa]; exact block_new _ _
  have hza : wa.heap.size = w.heap.size + 1 := by rw [hwa, World.size_alloc]
  obtain ⟨wb, hwb⟩ : ∃ wb, wb = wa.alloc (.cells (uV (List.replicate 8 0)) 107) := ⟨_, rfl⟩
  have bb : wb.heap[wa.heap.size]? = some (.cells (uV (List.replicate 8 0)) 107 (0, 0)) := by rw [hwb]; exact block_new _ _
  have hzb : wb.heap.size = w.heap.size + 1 + 1 := by rw [hwb, World.size_alloc, hza]
  obtain ⟨wc, hwc⟩ : ∃ wc, wc = wb.alloc (.cells (uV (List.replicate 64 0)) 129) := ⟨_, rfl⟩
  have bc : wc.heap[wb.heap.size]? = some (.cells (uV (List.replicate 64 0)) 129 (0, 0)) := by rw [hwc]; exact block_new _ _
  obtain ⟨G, hG⟩ : ∃ G : Nat, G = w.heap.size := ⟨_, rfl⟩
  have ka : Kp [] w wa := hwa ▸ (Kp.refl _ _).alloc _
  have kb : Kp [] wa wb := hwb ▸ (Kp.refl _ _).alloc _
  have kc : Kp [] wb wc := hwc ▸ (Kp.refl _ _).alloc _
  have bsc : wc.heap[w.heap.size]? = some (.cells (uV s) 107 (0, 0)) := ((kb.trans kc).block _ (lt_of_block ba) (by simp)).trans ba
  have brc : wc.heap[w.heap.size + 1]? = some (.cells (uV (List.replicate 8 0)) 107 (0, 0)) := by
    rw [← hza]
    exact (kc.block _ (lt_of_block bb) (by simp)).trans bb
  rw [hzb] at bc
  have kabc := (ka.trans kb).trans kc
  have hwabc : wc = ((w.alloc (.cells (uV s) 107)).alloc (.cells #[.int .u32 0, .int .u32 0, .int .u32 0, .int .u32 0, .int .u32 0, .int .u32 0, .int .u32 0, .int .u32 0] 107)).alloc (.cells #[.int .u32 0, .int .u32 0, .int .u32 0, .int .u32 0, .int .u32 0, .int .u32 0, .int .u32 0, .int .u32 0, .int .u32 0, .int .u32 0, .int .u32 0, .int .u32 0, .int .u32 0, .int .u32 0, .int .u32 0, .int .u32 0, .int .u32 0, .int .u32 0, .int .u32 0, .int .u32 0, .int .u32 0, .int .u32 0, .int .u32 0, .int .u32 0, .int .u32 0, .int .u32 0, .int .u32 0, .int .u32 0, .int .u32 0, .int .u32 0, .int .u32 0, .int .u32 0, .int .u32 0, .int .u32 0, .int .u32 0, .int .u32 0, .int .u32 0, .int .u32 0, .int .u32 0, .int .u32 0, .int .u32 0, .int .u32 0, .int .u32 0, .int .u32 0, .int .u32 0, .int .u32 0, .int .u32 0, .int .u32 0, .int .u32 0, .int .u32 0, .int .u32 0, .int .u32 0, .int .u32 0, .int .u32 0, .int .u32 0, .int .u32 0, .int .u32 0, .int .u32 0, .int .u32 0, .int .u32 0, .int .u32 0, .int .u32 0, .int .u32 0, .int .u32 0] 129) := by rw [hwc, hwb, hwa]; rfl
  have HWC := Lib.hid hwabc
  have HG := Lib.hid hG
  clear ba hza bb hzb hwa hwb hwc ka kb kc hwabc hG
  have hK0 := Kp.refl [w.heap.size + 1 + 1] wc
  have hW0 : wc.heap[w.heap.size + 1 + 1]? = some (.cells (uV (wAll b 0)) 129 (0, 0)) := bc
  obtain ⟨gw, hgw⟩ : ∃ gw, gw = w.heap.size + 1 + 1 := ⟨_, rfl⟩
  obtain ⟨gr, hgr⟩ : ∃ gr, gr = w.heap.size + 1 := ⟨_, rfl⟩
  obtain ⟨gs, hgs⟩ : ∃ gs, gs = w.heap.size := ⟨_, rfl⟩
  rw [← hgw] at hK0 hW0
  rw [← hgr] at brc
  rw [← hgs] at bsc
  have hdis : gs < gr ∧ gr < gw ∧ w.heap.size ≤ gs := by omega
  have HGW := Lib.hid hgw
  have HGR := Lib.hid hgr
  have HGS := Lib.hid hgs
  clear bc hgw hgr hgs
  go_enter Tryd.func75, Tryd.ntmps75
  go_wp2_with fail
  rw [← HWC.out, ← HGW.out, ← HGR.out, ← HGS.out]
  go_loopg [18] 64 (fun g i wr => ∃ n : Nat, n + g = 64 ∧ i = .int .i64 n ∧ Kp [gw] wc wr ∧ wr.heap[gw]? = some (.cells (uV (wAll b n)) 129 (0, 0)))
  case atStart => exact ⟨0, rfl, rfl, hK0, hW0⟩
  case round =>
    clear hK0 hW0
    obtain ⟨n, hn, rfl, hK, hW⟩ := hrel
    have HN := Lib.hid hn
    by_cases hlt : n < 64
    · obtain ⟨g', rfl⟩ : ∃ g', gk = g' + 1 := ⟨gk - 1, by omega⟩
      clear hn
      have hltI : (n : Int) < 64 := by omega
      by_cases h16 : n < 16
      · have h16I : (n : Int) < 16 := by omega
        rw [wAll_arr b n hlt] at hW
        have hKr := Kp.refl [gw] wr
        obtain ⟨wo, hwo⟩ : ∃ wo : World, wo = wr := ⟨_, rfl⟩
        rw [← hwo] at hK hW hKr ⊢
        clear hwo
        go_wp2_with fail
        go_loopg [23] 4 (fun g i wr => ∃ k : Nat, k + g = 4 ∧ i = .int .i64 k ∧ Kp [gw] wo wr ∧ wr.heap[gw]? = some (.cells (uV (wArr b n (part b n k))) 129 (0, 0)))
        case atStart => exact ⟨0, rfl, rfl, hKr, hW⟩
        case round =>
          clear hKr hW
          obtain ⟨k, hk, rfl, hK2, hW2⟩ := hrel
          have HK := Lib.hid hk
          by_cases hlt4 : k < 4
          · obtain ⟨g2, rfl⟩ : ∃ g2, gk = g2 + 1 := ⟨gk - 1, by omega⟩
            clear hk
            have hkI : (k : Int) < 4 := by omega
            have cw := Kp.cellAt (X := []) (uV_cell' hW2 n _ (wArr_at b n _)) (by simp)
            have fw : ∀ W, Kp [] wr W → W.frozen? ⟨gw, n, none⟩ = false := Kp.frozenAt (uV_cell' hW2 n _ (wArr_at b n _)) (frozen_of_cells hW2 _) (by simp)
            obtain ⟨x, hx⟩ : ∃ x, x = part b n k := ⟨_, rfl⟩
            rw [← hx] at cw hW2
            have HX := Lib.hid hx
            have hw4 := wrap_id (4 * (n : Int)) (by omega) (by omega)
            have hw5 := wrap_id (4 * (n : Int) + (k : Int)) (by omega) (by omega)
            have hjj : (4 * (n : Int) + (k : Int)).toNat = 4 * n + k := by omega
            have hin : 4 * n + k < b.size := by omega
            have hin64 : 0 ≤ 4 * (n : Int) + (k : Int) ∧ 4 * (n : Int) + (k : Int) < 64 := by omega
            have hyb := byteI_get b (4 * n + k) hin
            clear hx
            go_wp2_with fail
            refine wpB_begin 14 (Kp [] wr) (by kernel_rfl) (by exact (Kp.refl _ _).drew) (fun hHeld => ?_)
            refine wpB_take 0 _ ?_ rfl (by kernel_rfl) (fun _ _ _ h => h) rfl hHeld ?_ ?_
            rotate_left
            · (intro W hW; go_simp; try with_reducible rfl)
            try simp only [Act.put, List.setIfInBounds_toArray, List.set_cons_zero, List.set_cons_succ]
            refine wpB_take 1 _ ?_ rfl (by kernel_rfl) (fun _ _ _ h => h) rfl hHeld ?_ ?_
            rotate_left
            · (intro W hW; go_simp; try with_reducible rfl)
            try simp only [Act.put, List.setIfInBounds_toArray, List.set_cons_zero, List.set_cons_succ]
            refine wpB_take 2 _ ?_ rfl (by kernel_rfl) (fun _ _ _ h => h) rfl hHeld ?_ ?_
            rotate_left
            · (intro W hW; go_simp; try with_reducible rfl)
            try simp only [Act.put, List.setIfInBounds_toArray, List.set_cons_zero, List.set_cons_succ]
            refine wpB_take 3 _ ?_ rfl (by kernel_rfl) (fun _ _ _ h => h) rfl hHeld ?_ ?_
            rotate_left
            · (intro W hW; go_simp; try with_reducible rfl)
            try simp only [Act.put, List.setIfInBounds_toArray, List.set_cons_zero, List.set_cons_succ]
            refine wpB_take 4 _ ?_ rfl (by kernel_rfl) (fun _ _ _ h => h) rfl hHeld ?_ ?_
            rotate_left
            · (intro W hW; go_simp; try with_reducible rfl)
            try simp only [Act.put, List.setIfInBounds_toArray, List.set_cons_zero, List.set_cons_succ]
            refine wpB_take 5 _ ?_ rfl (by kernel_rfl) (fun _ _ _ h => h) rfl hHeld ?_ ?_
            rotate_left
            · (intro W hW; go_simp; try with_reducible rfl)
            try simp only [Act.put, List.setIfInBounds_toArray, List.set_cons_zero, List.set_cons_succ]
            refine wpB_take 6 _ ?_ rfl (by kernel_rfl) (fun _ _ _ h => h) rfl hHeld ?_ ?_
            rotate_left
            · (intro W hW; go_simp; try with_reducible rfl)
            try simp only [Act.put, List.setIfInBounds_toArray, List.set_cons_zero, List.set_cons_succ]
            refine wpB_take 7 _ ?_ rfl (by kernel_rfl) (fun _ _ _ h => h) rfl hHeld ?_ ?_
            rotate_left
            · (intro W hW; go_simp; try with_reducible rfl)
            try simp only [Act.put, List.setIfInBounds_toArray, List.set_cons_zero, List.set_cons_succ]
            refine wpB_take 8 _ ?_ rfl (by kernel_rfl) (fun _ _ _ h => h) rfl hHeld ?_ ?_
            rotate_left
            · (intro W hW; go_simp; try with_reducible rfl)
            try simp only [Act.put, List.setIfInBounds_toArray, List.set_cons_zero, List.set_cons_succ]
            refine wpB_take 9 _ ?_ rfl (by kernel_rfl) (fun _ _ _ h => h) rfl hHeld ?_ ?_
            rotate_left
            · (intro W hW; go_simp; try with_reducible rfl)
            try simp only [Act.put, List.setIfInBounds_toArray, List.set_cons_zero, List.set_cons_succ]
            refine wpB_take 10 _ ?_ rfl (by kernel_rfl) (fun _ _ _ h => h) rfl hHeld ?_ ?_
            rotate_left
            · (intro W hW; go_simp; try with_reducible rfl)
            try simp only [Act.put, List.setIfInBounds_toArray, List.set_cons_zero, List.set_cons_succ]
            refine wpB_take 11 _ ?_ rfl (by kernel_rfl) (fun _ _ _ h => h) rfl hHeld ?_ ?_
            rotate_left
            · (intro W hW; go_simp; try with_reducible rfl)
            try simp only [Act.put, List.setIfInBounds_toArray, List.set_cons_zero, List.set_cons_succ]
            refine wpB_take 12 _ ?_ rfl (by kernel_rfl) (fun _ _ _ h => h) rfl hHeld ?_ ?_
            rotate_left
            · (intro W hW; go_simp; try with_reducible rfl)
            try simp only [Act.put, List.setIfInBounds_toArray, List.set_cons_zero, List.set_cons_succ]
            refine wpB_take 13 _ ?_ rfl (by kernel_rfl) (fun _ _ _ h => h) rfl hHeld ?_ ?_
            rotate_left
            · (intro W hW; go_simp; try with_reducible rfl)
            try simp only [Act.put, List.setIfInBounds_toArray, List.set_cons_zero, List.set_cons_succ]
            refine wpB_bar (Kp [gw] wr) 999 _ rfl (by kernel_rfl) rfl (fun K hK_ => ?_)
            go_simp
            refine hK_.out _ _ (by exact (hHeld.weaken (fun _ _ h => by cases h)).setCell (.inl (by simp)) _) (fun hHeld => ?_)
            clear hK_ K
            try simp only [Act.put, List.setIfInBounds_toArray, List.set_cons_zero, List.set_cons_succ]
            refine wpB_done (by kernel_rfl) ?_ _
            have hnew := uV_set hW2 n (bits BinOp.or .u32 (IntKind.u32.wrap (x * 256)) (IntKind.u32.wrap (byteI b (4 * n + k))))
            rw [wArr_set, HX.out] at hnew
            have hKx : Kp [gw] wo ((wr.setCell ⟨gw, n, none⟩ (.int .u32 (bits BinOp.or .u32 (IntKind.u32.wrap (x * 256)) (IntKind.u32.wrap (byteI b (4 * n + k)))))).drew) := hK2.trans hHeld
            have HNEW := Lib.hid hnew
            clear hHeld hnew cw fw hW2
            go_wp2_with fail
            go_roundg g2
            case rel => exact ⟨k + 1, by have := HK.out; omega, by go_num, hKx, by rw [HX.out]; exact HNEW.out⟩
            case measure => omega
          · obtain rfl : k = 4 := by omega
            obtain rfl : gk = 0 := by omega
            have hn2 := wAll_next b n hlt (part b n 4) (by rw [if_pos h16])
            rw [hn2] at hW2
            have hKn := hK.trans hK2
            clear hk hn2
            go_wp2_with fail
            go_roundg g'
            case rel => exact ⟨n + 1, by have := HN.out; omega, by go_num, hKn, hW2⟩
            case measure => omega
      · have h16I : ¬ (n : Int) < 16 := by omega
        have a15 := wrap_id ((n : Int) - 15) (by omega) (by omega)
        have a2 := wrap_id ((n : Int) - 2) (by omega) (by omega)
        have a16 := wrap_id ((n : Int) - 16) (by omega) (by omega)
        have a7 := wrap_id ((n : Int) - 7) (by omega) (by omega)
        have g15 : (15 : Int) ≤ n := by omega
        have g2 : (2 : Int) ≤ n := by omega
        have g16 : (16 : Int) ≤ n := by omega
        have g7 : (7 : Int) ≤ n := by omega
        have i15 : ((n : Int) - 15).toNat = n - 15 := by omega
        have i2 : ((n : Int) - 2).toNat = n - 2 := by omega
        have i16 : ((n : Int) - 16).toNat = n - 16 := by omega
        have i7 : ((n : Int) - 7).toNat = n - 7 := by omega
        have b15 : 0 ≤ (n : Int) - 15 ∧ (n : Int) - 15 < 64 := by omega
        have b2 : 0 ≤ (n : Int) - 2 ∧ (n : Int) - 2 < 64 := by omega
        have b16 : 0 ≤ (n : Int) - 16 ∧ (n : Int) - 16 < 64 := by omega
        have b7 : 0 ≤ (n : Int) - 7 ∧ (n : Int) - 7 < 64 := by omega
        have c15 := Kp.cellAt (X := []) (uV_cell' hW (n - 15) _ (wAll_old b n (n - 15) hlt (by omega))) (by simp)
        have c2 := Kp.cellAt (X := []) (uV_cell' hW (n - 2) _ (wAll_old b n (n - 2) hlt (by omega))) (by simp)
        have c16 := Kp.cellAt (X := []) (uV_cell' hW (n - 16) _ (wAll_old b n (n - 16) hlt (by omega))) (by simp)
        have c7 := Kp.cellAt (X := []) (uV_cell' hW (n - 7) _ (wAll_old b n (n - 7) hlt (by omega))) (by simp)
        have hW' := hW
        rw [wAll_arr b n hlt] at hW'
        have cw := Kp.cellAt (X := []) (uV_cell' hW' n _ (wArr_at b n _)) (by simp)
        have fw : ∀ W, Kp [] wr W → W.frozen? ⟨gw, n, none⟩ = false := Kp.frozenAt (uV_cell' hW' n _ (wArr_at b n _)) (frozen_of_cells hW' _) (by simp)
        have hstp := fun W (k : Kp [] wr W) y (hy : y = schedN (sched b n) n) => wAt_step hlt h16 hW' k hy
        obtain ⟨x15, hx15⟩ : ∃ x, x = (sched b n).getD (n - 15) 0 := ⟨_, rfl⟩
        obtain ⟨x2, hx2⟩ : ∃ x, x = (sched b n).getD (n - 2) 0 := ⟨_, rfl⟩
        obtain ⟨x16, hx16⟩ : ∃ x, x = (sched b n).getD (n - 16) 0 := ⟨_, rfl⟩
        obtain ⟨x7, hx7⟩ : ∃ x, x = (sched b n).getD (n - 7) 0 := ⟨_, rfl⟩
        have hsN : schedN (sched b n) n = IntKind.u32.wrap (IntKind.u32.wrap (IntKind.u32.wrap (x16 + x7) + sg0 x15) + sg1 x2) := by rw [hx15, hx2, hx16, hx7]; rfl
        rw [← hx15] at c15
        rw [← hx2] at c2
        rw [← hx16] at c16
        rw [← hx7] at c7
        have HSN := Lib.hid hsN
        have HSTP := Lib.hid hstp
        clear hx15 hx2 hx16 hx7 hsN hstp hW hW'
        go_wp2_with fail
        refine wpB_begin 999 (Kp [] wr) (by kernel_rfl) (by exact (Kp.refl _ _).drew) (fun hHeld => ?_)
        refine wpB_take 0 _ ?_ rfl (by kernel_rfl) (fun _ _ _ h => h) rfl hHeld ?_ ?_
        rotate_left
        · (intro W hW; go_simp; try with_reducible rfl)
        try simp only [Act.put, List.setIfInBounds_toArray, List.set_cons_zero, List.set_cons_succ]
        refine wpB_take 1 _ ?_ rfl (by kernel_rfl) (fun _ _ _ h => h) rfl hHeld ?_ ?_
        rotate_left
        · (intro W hW; go_simp; try with_reducible rfl)
        try simp only [Act.put, List.setIfInBounds_toArray, List.set_cons_zero, List.set_cons_succ]
        refine wpB_take 2 _ ?_ rfl (by kernel_rfl) (fun _ _ _ h => h) rfl hHeld ?_ ?_
        rotate_left
        · (intro W hW; go_simp; try with_reducible rfl)
        try simp only [Act.put, List.setIfInBounds_toArray, List.set_cons_zero, List.set_cons_succ]
        refine wpB_take 3 _ ?_ rfl (by kernel_rfl) (fun _ _ _ h => h) rfl hHeld ?_ ?_
        rotate_left
        · (intro W hW; go_simp; try with_reducible rfl)
        try simp only [Act.put, List.setIfInBounds_toArray, List.set_cons_zero, List.set_cons_succ]
        refine wpB_take 4 _ ?_ rfl (by kernel_rfl) (fun _ _ _ h => h) rfl hHeld ?_ ?_
        rotate_left
        · (intro W hW; go_simp; try with_reducible rfl)
        try simp only [Act.put, List.setIfInBounds_toArray, List.set_cons_zero, List.set_cons_succ]
        refine wpB_take 5 _ ?_ rfl (by kernel_rfl) (fun _ _ _ h => h) rfl hHeld ?_ ?_
        rotate_left
        · (intro W hW; go_simp; try with_reducible rfl)
        try simp only [Act.put, List.setIfInBounds_toArray, List.set_cons_zero, List.set_cons_succ]
        refine wpB_take 6 _ ?_ rfl (by kernel_rfl) (fun _ _ _ h => h) rfl hHeld ?_ ?_
        rotate_left
        · (intro W hW; go_simp; try with_reducible rfl)
        try simp only [Act.put, List.setIfInBounds_toArray, List.set_cons_zero, List.set_cons_succ]
        refine wpB_take 7 _ ?_ rfl (by kernel_rfl) (fun _ _ _ h => h) rfl hHeld ?_ ?_
        rotate_left
        · (intro W hW; go_simp; try with_reducible rfl)
        try simp only [Act.put, List.setIfInBounds_toArray, List.set_cons_zero, List.set_cons_succ]
        refine wpB_take 8 _ ?_ rfl (by kernel_rfl) (fun _ _ _ h => h) rfl hHeld ?_ ?_
        rotate_left
        · (intro W hW; go_simp; try with_reducible rfl)
        try simp only [Act.put, List.setIfInBounds_toArray, List.set_cons_zero, List.set_cons_succ]
        refine wpB_take 9 _ ?_ rfl (by kernel_rfl) (fun _ _ _ h => h) rfl hHeld ?_ ?_
        rotate_left
        · (intro W hW; go_simp; try with_reducible rfl)
        try simp only [Act.put, List.setIfInBounds_toArray, List.set_cons_zero, List.set_cons_succ]
        refine wpB_done (by kernel_rfl) ?_ _
        go_wp2_with fail
        refine wpB_begin 29 (Kp [] wr) (by kernel_rfl) (by exact ((Kp.refl _ _).drew).drew) (fun hHeld => ?_)
        refine wpB_take 0 _ ?_ rfl (by kernel_rfl) (fun _ _ _ h => h) rfl hHeld ?_ ?_
        rotate_left
        · (intro W hW; go_simp; try with_reducible rfl)
        try simp only [Act.put, List.setIfInBounds_toArray, List.set_cons_zero, List.set_cons_succ]
        refine wpB_take 1 _ ?_ rfl (by kernel_rfl) (fun _ _ _ h => h) rfl hHeld ?_ ?_
        rotate_left
        · (intro W hW; go_simp; try with_reducible rfl)
        try simp only [Act.put, List.setIfInBounds_toArray, List.set_cons_zero, List.set_cons_succ]
        refine wpB_take 2 _ ?_ rfl (by kernel_rfl) (fun _ _ _ h => h) rfl hHeld ?_ ?_
        rotate_left
        · (intro W hW; go_simp; try with_reducible rfl)
        try simp only [Act.put, List.setIfInBounds_toArray, List.set_cons_zero, List.set_cons_succ]
        refine wpB_take 3 _ ?_ rfl (by kernel_rfl) (fun _ _ _ h => h) rfl hHeld ?_ ?_
        rotate_left
        · (intro W hW; go_simp; try with_reducible rfl)
        try simp only [Act.put, List.setIfInBounds_toArray, List.set_cons_zero, List.set_cons_succ]
        refine wpB_take 4 _ ?_ rfl (by kernel_rfl) (fun _ _ _ h => h) rfl hHeld ?_ ?_
        rotate_left
        · (intro W hW; go_simp; try with_reducible rfl)
        try simp only [Act.put, List.setIfInBounds_toArray, List.set_cons_zero, List.set_cons_succ]
        refine wpB_take 5 _ ?_ rfl (by kernel_rfl) (fun _ _ _ h => h) rfl hHeld ?_ ?_
        rotate_left
        · (intro W hW; go_simp; try with_reducible rfl)
        try simp only [Act.put, List.setIfInBounds_toArray, List.set_cons_zero, List.set_cons_succ]
        refine wpB_take 6 _ ?_ rfl (by kernel_rfl) (fun _ _ _ h => h) rfl hHeld ?_ ?_
        rotate_left
        · (intro W hW; go_simp; try with_reducible rfl)
        try simp only [Act.put, List.setIfInBounds_toArray, List.set_cons_zero, List.set_cons_succ]
        refine wpB_take 7 _ ?_ rfl (by kernel_rfl) (fun _ _ _ h => h) rfl hHeld ?_ ?_
        rotate_left
        · (intro W hW; go_simp; try with_reducible rfl)
        try simp only [Act.put, List.setIfInBounds_toArray, List.set_cons_zero, List.set_cons_succ]
        refine wpB_take 8 _ ?_ rfl (by kernel_rfl) (fun _ _ _ h => h) rfl hHeld ?_ ?_
        rotate_left
        · (intro W hW; go_simp; try with_reducible rfl)
        try simp only [Act.put, List.setIfInBounds_toArray, List.set_cons_zero, List.set_cons_succ]
        refine wpB_take 9 _ ?_ rfl (by kernel_rfl) (fun _ _ _ h => h) rfl hHeld ?_ ?_
        rotate_left
        · (intro W hW; go_simp; try with_reducible rfl)
        try simp only [Act.put, List.setIfInBounds_toArray, List.set_cons_zero, List.set_cons_succ]
        refine wpB_take 10 _ ?_ rfl (by kernel_rfl) (fun _ _ _ h => h) rfl hHeld ?_ ?_
        rotate_left
        · (intro W hW; go_simp; try with_reducible rfl)
        try simp only [Act.put, List.setIfInBounds_toArray, List.set_cons_zero, List.set_cons_succ]
        refine wpB_take 12 _ ?_ rfl (by kernel_rfl) (fun _ _ _ h => h) rfl hHeld ?_ ?_
        rotate_left
        · (intro W hW; go_simp; try with_reducible rfl)
        try simp only [Act.put, List.setIfInBounds_toArray, List.set_cons_zero, List.set_cons_succ]
        refine wpB_take 15 _ ?_ rfl (by kernel_rfl) (fun _ _ _ h => h) rfl hHeld ?_ ?_
        rotate_left
        · (intro W hW; go_simp; try with_reducible rfl)
        try simp only [Act.put, List.setIfInBounds_toArray, List.set_cons_zero, List.set_cons_succ]
        refine wpB_take 16 _ ?_ rfl (by kernel_rfl) (fun _ _ _ h => h) rfl hHeld ?_ ?_
        rotate_left
        · (intro W hW; go_simp; try with_reducible rfl)
        try simp only [Act.put, List.setIfInBounds_toArray, List.set_cons_zero, List.set_cons_succ]
        refine wpB_take 19 _ ?_ rfl (by kernel_rfl) (fun _ _ _ h => h) rfl hHeld ?_ ?_
        rotate_left
        · (intro W hW; go_simp; try with_reducible rfl)
        try simp only [Act.put, List.setIfInBounds_toArray, List.set_cons_zero, List.set_cons_succ]
        refine wpB_take 21 _ ?_ rfl (by kernel_rfl) (fun _ _ _ h => h) rfl hHeld ?_ ?_
        rotate_left
        · (intro W hW; go_simp; try with_reducible rfl)
        try simp only [Act.put, List.setIfInBounds_toArray, List.set_cons_zero, List.set_cons_succ]
        refine wpB_take 24 _ ?_ rfl (by kernel_rfl) (fun _ _ _ h => h) rfl hHeld ?_ ?_
        rotate_left
        · (intro W hW; go_simp; try with_reducible rfl)
        try simp only [Act.put, List.setIfInBounds_toArray, List.set_cons_zero, List.set_cons_succ]
        refine wpB_take 25 _ ?_ rfl (by kernel_rfl) (fun _ _ _ h => h) rfl hHeld ?_ ?_
        rotate_left
        · (intro W hW; go_simp; try with_reducible rfl)
        try simp only [Act.put, List.setIfInBounds_toArray, List.set_cons_zero, List.set_cons_succ]
        refine wpB_step 11 _ rfl (by kernel_rfl) rfl rfl (fun K hK_ => ?_)
        go_simp
        refine (dright _ _ (by decide) (by decide) _).mono ?_
        rintro e wq ⟨rfl, kq⟩
        refine hK_.out _ _ (by exact hHeld.trans kq) (fun hHeld => ?_)
        clear hK_ K
        try simp only [Act.put, List.setIfInBounds_toArray, List.set_cons_zero, List.set_cons_succ]
        refine wpB_step 13 _ rfl (by kernel_rfl) rfl rfl (fun K hK_ => ?_)
        go_simp
        refine (dright _ _ (by decide) (by decide) _).mono ?_
        rintro e wq ⟨rfl, kq⟩
        refine hK_.out _ _ (by exact hHeld.trans kq) (fun hHeld => ?_)
        clear hK_ K
        try simp only [Act.put, List.setIfInBounds_toArray, List.set_cons_zero, List.set_cons_succ]
        refine wpB_take 14 _ ?_ rfl (by kernel_rfl) (fun _ _ _ h => h) rfl hHeld ?_ ?_
        rotate_left
        · (intro W hW; go_simp; try with_reducible rfl)
        try simp only [Act.put, List.setIfInBounds_toArray, List.set_cons_zero, List.set_cons_succ]
        refine wpB_take 17 _ ?_ rfl (by kernel_rfl) (fun _ _ _ h => h) rfl hHeld ?_ ?_
        rotate_left
        · (intro W hW; go_simp; try with_reducible rfl)
        try simp only [Act.put, List.setIfInBounds_toArray, List.set_cons_zero, List.set_cons_succ]
        refine wpB_take 18 _ ?_ rfl (by kernel_rfl) (fun _ _ _ h => h) rfl hHeld ?_ ?_
        rotate_left
        · (intro W hW; go_simp; try with_reducible rfl)
        try simp only [Act.put, List.setIfInBounds_toArray, List.set_cons_zero, List.set_cons_succ]
        refine wpB_step 20 _ rfl (by kernel_rfl) rfl rfl (fun K hK_ => ?_)
        go_simp
        refine (dright _ _ (by decide) (by decide) _).mono ?_
        rintro e wq ⟨rfl, kq⟩
        refine hK_.out _ _ (by exact hHeld.trans kq) (fun hHeld => ?_)
        clear hK_ K
        try simp only [Act.put, List.setIfInBounds_toArray, List.set_cons_zero, List.set_cons_succ]
        refine wpB_step 22 _ rfl (by kernel_rfl) rfl rfl (fun K hK_ => ?_)
        go_simp
        refine (dright _ _ (by decide) (by decide) _).mono ?_
        rintro e wq ⟨rfl, kq⟩
        refine hK_.out _ _ (by exact hHeld.trans kq) (fun hHeld => ?_)
        clear hK_ K
        try simp only [Act.put, List.setIfInBounds_toArray, List.set_cons_zero, List.set_cons_succ]
        refine wpB_take 23 _ ?_ rfl (by kernel_rfl) (fun _ _ _ h => h) rfl hHeld ?_ ?_
        rotate_left
        · (intro W hW; go_simp; try with_reducible rfl)
        try simp only [Act.put, List.setIfInBounds_toArray, List.set_cons_zero, List.set_cons_succ]
        refine wpB_take 26 _ ?_ rfl (by kernel_rfl) (fun _ _ _ h => h) rfl hHeld ?_ ?_
        rotate_left
        · (intro W hW; go_simp; try with_reducible rfl)
        try simp only [Act.put, List.setIfInBounds_toArray, List.set_cons_zero, List.set_cons_succ]
        refine wpB_take 27 _ ?_ rfl (by kernel_rfl) (fun _ _ _ h => h) rfl hHeld ?_ ?_
        rotate_left
        · (intro W hW; go_simp; try with_reducible rfl)
        try simp only [Act.put, List.setIfInBounds_toArray, List.set_cons_zero, List.set_cons_succ]
        refine wpB_take 28 _ ?_ rfl (by kernel_rfl) (fun _ _ _ h => h) rfl hHeld ?_ ?_
        rotate_left
        · (intro W hW; go_simp; try with_reducible rfl)
        try simp only [Act.put, List.setIfInBounds_toArray, List.set_cons_zero, List.set_cons_succ]
        refine wpB_bar (WAt b (n + 1) gw wr) 999 _ rfl (by kernel_rfl) rfl (fun K hK_ => ?_)
        go_simp
        refine hK_.out _ _ (by exact HSTP.out _ hHeld _ HSN.out.symm) (fun hHeld => ?_)
        clear hK_ K
        try simp only [Act.put, List.setIfInBounds_toArray, List.set_cons_zero, List.set_cons_succ]
        refine wpB_done (by kernel_rfl) ?_ _
        obtain ⟨hKx, hWx⟩ := hHeld
        have hKn := hK.trans hKx
        clear c15 c2 c16 c7 cw fw hKx
        go_wp2_with fail
        go_roundg g'
        case rel => exact ⟨n + 1, by have := HN.out; omega, by go_num, hKn, hWx⟩
        case measure => omega
    · obtain rfl : n = 64 := by omega
      obtain rfl : gk = 0 := by omega
      clear hn
      have bs1 : ∀ W, Kp [] wr W → W.heap[gs]? = some (.cells (uV s) 107 (0, 0)) := fun W k => (k.block _ (Nat.lt_of_lt_of_le (lt_of_block bsc) hK.size) (by simp)).trans ((hK.block _ (lt_of_block bsc) (by simp only [List.mem_singleton]; omega)).trans bsc)
      have hs8 : (Tryd.prog.info? 107).map (·.size) = some (uV s).size := by rw [uV_len, hs]; exact size8
      have HB1 := Lib.hid bs1
      have HS8 := Lib.hid hs8
      clear bs1 hs8
      go_wp2_with fail
      refine region_then_at (fun A0 a W => ∃ gv gq : Nat, a = (((A0.put (some 79) (.agg (uV s))).put (some 80) (.agg (uV kList))).put (some 10) (.pointer (some ⟨gv, 0, none⟩))).put (some 11) (.pointer (some ⟨gq, 0, none⟩)) ∧ Kp [] wr W ∧ W.heap[gv]? = some (.cells (uV s) 107 (0, 0)) ∧ W.heap[gq]? = some (.cells (uV kList) 129 (0, 0)) ∧ wr.heap.size ≤ gv ∧ wr.heap.size ≤ gq ∧ gv ≠ gq) ?_ ?_
      · refine wpB_begin 999 (Kp [] wr) (by kernel_rfl) (by exact (Kp.refl _ _).drew) (fun hHeld => ?_)
        refine wpB_take 0 _ ?_ rfl (by kernel_rfl) (fun _ _ _ h => h) rfl hHeld ?_ ?_
        rotate_left
        · (intro W hW; refine exec_load_row (ty := 107) (x := .tmp 2) ?_ ?_ (HB1.out _ hW) under8 rfl HS8.out <;> rfl)
        try simp only [Act.put, List.setIfInBounds_toArray, List.set_cons_zero, List.set_cons_succ]
        refine wpB_fork3 1 2 3 _ _ _ rfl rfl rfl (by kernel_rfl) rfl rfl rfl rfl (fun K hK_ => ?_) (fun K hK_ => ?_) (fun K hK_ => ?_)
        · go_simp
          refine (dconst _).mono ?_
          rintro e wq ⟨rfl, kq⟩
          refine hK_.out _ _ (by exact hHeld.trans kq) (fun hHeld => ?_)
          clear hK_ K
          try simp only [Act.put, List.setIfInBounds_toArray, List.set_cons_zero, List.set_cons_succ]
          refine wpB_fork 2 3 _ _ rfl rfl (by kernel_rfl) rfl rfl rfl (fun K hK_ => ?_) (fun K hK_ => ?_)
          · have hz2 := hHeld.size
            have hpre := hHeld
            go_simp
            first | refine with_new (K := K) fun hc2 => ?_ | refine with_new_drew (K := K) fun hc2 => ?_
            try simp only [World.size_alloc] at hc2
            refine hK_.out _ _ (by exact hpre.alloc _) (fun hHeld => ?_)
            clear hK_ K
            try simp only [Act.put, List.setIfInBounds_toArray, List.set_cons_zero, List.set_cons_succ]
            refine wpB_step 3 _ rfl (by kernel_rfl) rfl rfl (fun K hK_ => ?_)
            have hz3 := hHeld.size
            have hpre := hHeld
            go_simp
            first | refine with_new (K := K) fun hc3 => ?_ | refine with_new_drew (K := K) fun hc3 => ?_
            try simp only [World.size_alloc] at hc3
            refine hK_.out _ _ (by exact hpre.alloc _) (fun hHeld => ?_)
            clear hK_ K
            try simp only [Act.put, List.setIfInBounds_toArray, List.set_cons_zero, List.set_cons_succ]
            refine wpB_step 4 _ rfl (by kernel_rfl) rfl rfl (fun K hK_ => ?_)
            refine wp_store_row_told 107 (.tmp 10) (.tmp 79) rfl _ (uV s) rfl rfl 107 (uV (List.replicate 8 0)) (by first | exact hc2 | exact (block_alloc (hc2) _) | exact ((kq.block _ (lt_of_block (hc2)) (by simp)).trans (hc2)) | exact (block_alloc ((kq.block _ (lt_of_block (hc2)) (by simp)).trans (hc2)) _) | exact ((kq.block _ (lt_of_block (block_alloc (hc2) _)) (by simp)).trans (block_alloc (hc2) _))) HS8.out (by rw [uV_len, uV_len]; exact hs.symm) (uV_one _) (fun hv4 hv5 => ?_)
            refine hK_.out _ _ (by exact hHeld.setRow (.inr (by first | exact hz2 | (simp at hz2 ⊢ <;> omega))) _) (fun hHeld => ?_)
            clear hK_ K
            try simp only [Act.put, List.setIfInBounds_toArray, List.set_cons_zero, List.set_cons_succ]
            refine wpB_step 5 _ rfl (by kernel_rfl) rfl rfl (fun K hK_ => ?_)
            refine wp_store_row_told 129 (.tmp 11) (.tmp 80) rfl _ (uV kList) rfl rfl 129 (uV (List.replicate 64 0)) (by first | exact keep_other hv4 hc3 (by decide) _ | exact keep_other hv4 (block_alloc (hc3) _) (by decide) _ | exact keep_other hv4 ((kq.block _ (lt_of_block (hc3)) (by simp)).trans (hc3)) (by decide) _ | exact keep_other hv4 (block_alloc ((kq.block _ (lt_of_block (hc3)) (by simp)).trans (hc3)) _) (by decide) _ | exact keep_other hv4 ((kq.block _ (lt_of_block (block_alloc (hc3) _)) (by simp)).trans (block_alloc (hc3) _)) (by decide) _) (by rw [uV_len]; exact size64) rfl (uV_one _) (fun hk4 hk5 => ?_)
            refine hK_.out _ _ (by exact hHeld.setRow (.inr (by first | exact hz3 | (simp at hz3 ⊢ <;> omega))) _) (fun hHeld => ?_)
            clear hK_ K
            try simp only [Act.put, List.setIfInBounds_toArray, List.set_cons_zero, List.set_cons_succ]
            refine wpB_done (by kernel_rfl) ?_ _
            refine ⟨_, _, rfl, hHeld, keep_other hk4 hv5 (by decide) _, hk5, ?_, ?_, ne_of_types hk4 hv5 (by decide)⟩
            · first | exact hz2 | (simp at hz2 ⊢ <;> omega)
            · first | exact hz3 | (simp at hz3 ⊢ <;> omega)
          · have hz3 := hHeld.size
            have hpre := hHeld
            go_simp
            first | refine with_new (K := K) fun hc3 => ?_ | refine with_new_drew (K := K) fun hc3 => ?_
            try simp only [World.size_alloc] at hc3
            refine hK_.out _ _ (by exact hpre.alloc _) (fun hHeld => ?_)
            clear hK_ K
            try simp only [Act.put, List.setIfInBounds_toArray, List.set_cons_zero, List.set_cons_succ]
            refine wpB_step 2 _ rfl (by kernel_rfl) rfl rfl (fun K hK_ => ?_)
            have hz2 := hHeld.size
            have hpre := hHeld
            go_simp
            first | refine with_new (K := K) fun hc2 => ?_ | refine with_new_drew (K := K) fun hc2 => ?_
            try simp only [World.size_alloc] at hc2
            refine hK_.out _ _ (by exact hpre.alloc _) (fun hHeld => ?_)
            clear hK_ K
            try simp only [Act.put, List.setIfInBounds_toArray, List.set_cons_zero, List.set_cons_succ]
            refine wpB_step 4 _ rfl (by kernel_rfl) rfl rfl (fun K hK_ => ?_)
            refine wp_store_row_told 107 (.tmp 10) (.tmp 79) rfl _ (uV s) rfl rfl 107 (uV (List.replicate 8 0)) (by first | exact hc2 | exact (block_alloc (hc2) _) | exact ((kq.block _ (lt_of_block (hc2)) (by simp)).trans (hc2)) | exact (block_alloc ((kq.block _ (lt_of_block (hc2)) (by simp)).trans (hc2)) _) | exact ((kq.block _ (lt_of_block (block_alloc (hc2) _)) (by simp)).trans (block_alloc (hc2) _))) HS8.out (by rw [uV_len, uV_len]; exact hs.symm) (uV_one _) (fun hv4 hv5 => ?_)
            refine hK_.out _ _ (by exact hHeld.setRow (.inr (by first | exact hz2 | (simp at hz2 ⊢ <;> omega))) _) (fun hHeld => ?_)
            clear hK_ K
            try simp only [Act.put, List.setIfInBounds_toArray, List.set_cons_zero, List.set_cons_succ]
            refine wpB_step 5 _ rfl (by kernel_rfl) rfl rfl (fun K hK_ => ?_)
            refine wp_store_row_told 129 (.tmp 11) (.tmp 80) rfl _ (uV kList) rfl rfl 129 (uV (List.replicate 64 0)) (by first | exact keep_other hv4 hc3 (by decide) _ | exact keep_other hv4 (block_alloc (hc3) _) (by decide) _ | exact keep_other hv4 ((kq.block _ (lt_of_block (hc3)) (by simp)).trans (hc3)) (by decide) _ | exact keep_other hv4 (block_alloc ((kq.block _ (lt_of_block (hc3)) (by simp)).trans (hc3)) _) (by decide) _ | exact keep_other hv4 ((kq.block _ (lt_of_block (block_alloc (hc3) _)) (by simp)).trans (block_alloc (hc3) _)) (by decide) _) (by rw [uV_len]; exact size64) rfl (uV_one _) (fun hk4 hk5 => ?_)
            refine hK_.out _ _ (by exact hHeld.setRow (.inr (by first | exact hz3 | (simp at hz3 ⊢ <;> omega))) _) (fun hHeld => ?_)
            clear hK_ K
            try simp only [Act.put, List.setIfInBounds_toArray, List.set_cons_zero, List.set_cons_succ]
            refine wpB_done (by kernel_rfl) ?_ _
            refine ⟨_, _, rfl, hHeld, keep_other hk4 hv5 (by decide) _, hk5, ?_, ?_, ne_of_types hk4 hv5 (by decide)⟩
            · first | exact hz2 | (simp at hz2 ⊢ <;> omega)
            · first | exact hz3 | (simp at hz3 ⊢ <;> omega)
        · have hz2 := hHeld.size
          have hpre := hHeld
          go_simp
          first | refine with_new (K := K) fun hc2 => ?_ | refine with_new_drew (K := K) fun hc2 => ?_
          try simp only [World.size_alloc] at hc2
          refine hK_.out _ _ (by exact hpre.alloc _) (fun hHeld => ?_)
          clear hK_ K
          try simp only [Act.put, List.setIfInBounds_toArray, List.set_cons_zero, List.set_cons_succ]
          refine wpB_fork 1 3 _ _ rfl rfl (by kernel_rfl) rfl rfl rfl (fun K hK_ => ?_) (fun K hK_ => ?_)
          · go_simp
            refine (dconst _).mono ?_
            rintro e wq ⟨rfl, kq⟩
            refine hK_.out _ _ (by exact hHeld.trans kq) (fun hHeld => ?_)
            clear hK_ K
            try simp only [Act.put, List.setIfInBounds_toArray, List.set_cons_zero, List.set_cons_succ]
            refine wpB_step 3 _ rfl (by kernel_rfl) rfl rfl (fun K hK_ => ?_)
            have hz3 := hHeld.size
            have hpre := hHeld
            go_simp
            first | refine with_new (K := K) fun hc3 => ?_ | refine with_new_drew (K := K) fun hc3 => ?_
            try simp only [World.size_alloc] at hc3
            refine hK_.out _ _ (by exact hpre.alloc _) (fun hHeld => ?_)
            clear hK_ K
            try simp only [Act.put, List.setIfInBounds_toArray, List.set_cons_zero, List.set_cons_succ]
            refine wpB_step 4 _ rfl (by kernel_rfl) rfl rfl (fun K hK_ => ?_)
            refine wp_store_row_told 107 (.tmp 10) (.tmp 79) rfl _ (uV s) rfl rfl 107 (uV (List.replicate 8 0)) (by first | exact hc2 | exact (block_alloc (hc2) _) | exact ((kq.block _ (lt_of_block (hc2)) (by simp)).trans (hc2)) | exact (block_alloc ((kq.block _ (lt_of_block (hc2)) (by simp)).trans (hc2)) _) | exact ((kq.block _ (lt_of_block (block_alloc (hc2) _)) (by simp)).trans (block_alloc (hc2) _))) HS8.out (by rw [uV_len, uV_len]; exact hs.symm) (uV_one _) (fun hv4 hv5 => ?_)
            refine hK_.out _ _ (by exact hHeld.setRow (.inr (by first | exact hz2 | (simp at hz2 ⊢ <;> omega))) _) (fun hHeld => ?_)
            clear hK_ K
            try simp only [Act.put, List.setIfInBounds_toArray, List.set_cons_zero, List.set_cons_succ]
            refine wpB_step 5 _ rfl (by kernel_rfl) rfl rfl (fun K hK_ => ?_)
            refine wp_store_row_told 129 (.tmp 11) (.tmp 80) rfl _ (uV kList) rfl rfl 129 (uV (List.replicate 64 0)) (by first | exact keep_other hv4 hc3 (by decide) _ | exact keep_other hv4 (block_alloc (hc3) _) (by decide) _ | exact keep_other hv4 ((kq.block _ (lt_of_block (hc3)) (by simp)).trans (hc3)) (by decide) _ | exact keep_other hv4 (block_alloc ((kq.block _ (lt_of_block (hc3)) (by simp)).trans (hc3)) _) (by decide) _ | exact keep_other hv4 ((kq.block _ (lt_of_block (block_alloc (hc3) _)) (by simp)).trans (block_alloc (hc3) _)) (by decide) _) (by rw [uV_len]; exact size64) rfl (uV_one _) (fun hk4 hk5 => ?_)
            refine hK_.out _ _ (by exact hHeld.setRow (.inr (by first | exact hz3 | (simp at hz3 ⊢ <;> omega))) _) (fun hHeld => ?_)
            clear hK_ K
            try simp only [Act.put, List.setIfInBounds_toArray, List.set_cons_zero, List.set_cons_succ]
            refine wpB_done (by kernel_rfl) ?_ _
            refine ⟨_, _, rfl, hHeld, keep_other hk4 hv5 (by decide) _, hk5, ?_, ?_, ne_of_types hk4 hv5 (by decide)⟩
            · first | exact hz2 | (simp at hz2 ⊢ <;> omega)
            · first | exact hz3 | (simp at hz3 ⊢ <;> omega)
          · have hz3 := hHeld.size
            have hpre := hHeld
            go_simp
            first | refine with_new (K := K) fun hc3 => ?_ | refine with_new_drew (K := K) fun hc3 => ?_
            try simp only [World.size_alloc] at hc3
            refine hK_.out _ _ (by exact hpre.alloc _) (fun hHeld => ?_)
            clear hK_ K
            try simp only [Act.put, List.setIfInBounds_toArray, List.set_cons_zero, List.set_cons_succ]
            refine wpB_step 1 _ rfl (by kernel_rfl) rfl rfl (fun K hK_ => ?_)
            go_simp
            refine (dconst _).mono ?_
            rintro e wq ⟨rfl, kq⟩
            refine hK_.out _ _ (by exact hHeld.trans kq) (fun hHeld => ?_)
            clear hK_ K
            try simp only [Act.put, List.setIfInBounds_toArray, List.set_cons_zero, List.set_cons_succ]
            refine wpB_step 4 _ rfl (by kernel_rfl) rfl rfl (fun K hK_ => ?_)
            refine wp_store_row_told 107 (.tmp 10) (.tmp 79) rfl _ (uV s) rfl rfl 107 (uV (List.replicate 8 0)) (by first | exact hc2 | exact (block_alloc (hc2) _) | exact ((kq.block _ (lt_of_block (hc2)) (by simp)).trans (hc2)) | exact (block_alloc ((kq.block _ (lt_of_block (hc2)) (by simp)).trans (hc2)) _) | exact ((kq.block _ (lt_of_block (block_alloc (hc2) _)) (by simp)).trans (block_alloc (hc2) _))) HS8.out (by rw [uV_len, uV_len]; exact hs.symm) (uV_one _) (fun hv4 hv5 => ?_)
            refine hK_.out _ _ (by exact hHeld.setRow (.inr (by first | exact hz2 | (simp at hz2 ⊢ <;> omega))) _) (fun hHeld => ?_)
            clear hK_ K
            try simp only [Act.put, List.setIfInBounds_toArray, List.set_cons_zero, List.set_cons_succ]
            refine wpB_step 5 _ rfl (by kernel_rfl) rfl rfl (fun K hK_ => ?_)
            refine wp_store_row_told 129 (.tmp 11) (.tmp 80) rfl _ (uV kList) rfl rfl 129 (uV (List.replicate 64 0)) (by first | exact keep_other hv4 hc3 (by decide) _ | exact keep_other hv4 (block_alloc (hc3) _) (by decide) _ | exact keep_other hv4 ((kq.block _ (lt_of_block (hc3)) (by simp)).trans (hc3)) (by decide) _ | exact keep_other hv4 (block_alloc ((kq.block _ (lt_of_block (hc3)) (by simp)).trans (hc3)) _) (by decide) _ | exact keep_other hv4 ((kq.block _ (lt_of_block (block_alloc (hc3) _)) (by simp)).trans (block_alloc (hc3) _)) (by decide) _) (by rw [uV_len]; exact size64) rfl (uV_one _) (fun hk4 hk5 => ?_)
            refine hK_.out _ _ (by exact hHeld.setRow (.inr (by first | exact hz3 | (simp at hz3 ⊢ <;> omega))) _) (fun hHeld => ?_)
            clear hK_ K
            try simp only [Act.put, List.setIfInBounds_toArray, List.set_cons_zero, List.set_cons_succ]
            refine wpB_done (by kernel_rfl) ?_ _
            refine ⟨_, _, rfl, hHeld, keep_other hk4 hv5 (by decide) _, hk5, ?_, ?_, ne_of_types hk4 hv5 (by decide)⟩
            · first | exact hz2 | (simp at hz2 ⊢ <;> omega)
            · first | exact hz3 | (simp at hz3 ⊢ <;> omega)
        · have hz3 := hHeld.size
          have hpre := hHeld
          go_simp
          first | refine with_new (K := K) fun hc3 => ?_ | refine with_new_drew (K := K) fun hc3 => ?_
          try simp only [World.size_alloc] at hc3
          refine hK_.out _ _ (by exact hpre.alloc _) (fun hHeld => ?_)
          clear hK_ K
          try simp only [Act.put, List.setIfInBounds_toArray, List.set_cons_zero, List.set_cons_succ]
          refine wpB_fork 1 2 _ _ rfl rfl (by kernel_rfl) rfl rfl rfl (fun K hK_ => ?_) (fun K hK_ => ?_)
          · go_simp
            refine (dconst _).mono ?_
            rintro e wq ⟨rfl, kq⟩
            refine hK_.out _ _ (by exact hHeld.trans kq) (fun hHeld => ?_)
            clear hK_ K
            try simp only [Act.put, List.setIfInBounds_toArray, List.set_cons_zero, List.set_cons_succ]
            refine wpB_step 2 _ rfl (by kernel_rfl) rfl rfl (fun K hK_ => ?_)
            have hz2 := hHeld.size
            have hpre := hHeld
            go_simp
            first | refine with_new (K := K) fun hc2 => ?_ | refine with_new_drew (K := K) fun hc2 => ?_
            try simp only [World.size_alloc] at hc2
            refine hK_.out _ _ (by exact hpre.alloc _) (fun hHeld => ?_)
            clear hK_ K
            try simp only [Act.put, List.setIfInBounds_toArray, List.set_cons_zero, List.set_cons_succ]
            refine wpB_step 4 _ rfl (by kernel_rfl) rfl rfl (fun K hK_ => ?_)
            refine wp_store_row_told 107 (.tmp 10) (.tmp 79) rfl _ (uV s) rfl rfl 107 (uV (List.replicate 8 0)) (by first | exact hc2 | exact (block_alloc (hc2) _) | exact ((kq.block _ (lt_of_block (hc2)) (by simp)).trans (hc2)) | exact (block_alloc ((kq.block _ (lt_of_block (hc2)) (by simp)).trans (hc2)) _) | exact ((kq.block _ (lt_of_block (block_alloc (hc2) _)) (by simp)).trans (block_alloc (hc2) _))) HS8.out (by rw [uV_len, uV_len]; exact hs.symm) (uV_one _) (fun hv4 hv5 => ?_)
            refine hK_.out _ _ (by exact hHeld.setRow (.inr (by first | exact hz2 | (simp at hz2 ⊢ <;> omega))) _) (fun hHeld => ?_)
            clear hK_ K
            try simp only [Act.put, List.setIfInBounds_toArray, List.set_cons_zero, List.set_cons_succ]
            refine wpB_step 5 _ rfl (by kernel_rfl) rfl rfl (fun K hK_ => ?_)
            refine wp_store_row_told 129 (.tmp 11) (.tmp 80) rfl _ (uV kList) rfl rfl 129 (uV (List.replicate 64 0)) (by first | exact keep_other hv4 hc3 (by decide) _ | exact keep_other hv4 (block_alloc (hc3) _) (by decide) _ | exact keep_other hv4 ((kq.block _ (lt_of_block (hc3)) (by simp)).trans (hc3)) (by decide) _ | exact keep_other hv4 (block_alloc ((kq.block _ (lt_of_block (hc3)) (by simp)).trans (hc3)) _) (by decide) _ | exact keep_other hv4 ((kq.block _ (lt_of_block (block_alloc (hc3) _)) (by simp)).trans (block_alloc (hc3) _)) (by decide) _) (by rw [uV_len]; exact size64) rfl (uV_one _) (fun hk4 hk5 => ?_)
            refine hK_.out _ _ (by exact hHeld.setRow (.inr (by first | exact hz3 | (simp at hz3 ⊢ <;> omega))) _) (fun hHeld => ?_)
            clear hK_ K
            try simp only [Act.put, List.setIfInBounds_toArray, List.set_cons_zero, List.set_cons_succ]
            refine wpB_done (by kernel_rfl) ?_ _
            refine ⟨_, _, rfl, hHeld, keep_other hk4 hv5 (by decide) _, hk5, ?_, ?_, ne_of_types hk4 hv5 (by decide)⟩
            · first | exact hz2 | (simp at hz2 ⊢ <;> omega)
            · first | exact hz3 | (simp at hz3 ⊢ <;> omega)
          · have hz2 := hHeld.size
            have hpre := hHeld
            go_simp
            first | refine with_new (K := K) fun hc2 => ?_ | refine with_new_drew (K := K) fun hc2 => ?_
            try simp only [World.size_alloc] at hc2
            refine hK_.out _ _ (by exact hpre.alloc _) (fun hHeld => ?_)
            clear hK_ K
            try simp only [Act.put, List.setIfInBounds_toArray, List.set_cons_zero, List.set_cons_succ]
            refine wpB_step 1 _ rfl (by kernel_rfl) rfl rfl (fun K hK_ => ?_)
            go_simp
            refine (dconst _).mono ?_
            rintro e wq ⟨rfl, kq⟩
            refine hK_.out _ _ (by exact hHeld.trans kq) (fun hHeld => ?_)
            clear hK_ K
            try simp only [Act.put, List.setIfInBounds_toArray, List.set_cons_zero, List.set_cons_succ]
            refine wpB_step 4 _ rfl (by kernel_rfl) rfl rfl (fun K hK_ => ?_)
            refine wp_store_row_told 107 (.tmp 10) (.tmp 79) rfl _ (uV s) rfl rfl 107 (uV (List.replicate 8 0)) (by first | exact hc2 | exact (block_alloc (hc2) _) | exact ((kq.block _ (lt_of_block (hc2)) (by simp)).trans (hc2)) | exact (block_alloc ((kq.block _ (lt_of_block (hc2)) (by simp)).trans (hc2)) _) | exact ((kq.block _ (lt_of_block (block_alloc (hc2) _)) (by simp)).trans (block_alloc (hc2) _))) HS8.out (by rw [uV_len, uV_len]; exact hs.symm) (uV_one _) (fun hv4 hv5 => ?_)
            refine hK_.out _ _ (by exact hHeld.setRow (.inr (by first | exact hz2 | (simp at hz2 ⊢ <;> omega))) _) (fun hHeld => ?_)
            clear hK_ K
            try simp only [Act.put, List.setIfInBounds_toArray, List.set_cons_zero, List.set_cons_succ]
            refine wpB_step 5 _ rfl (by kernel_rfl) rfl rfl (fun K hK_ => ?_)
            refine wp_store_row_told 129 (.tmp 11) (.tmp 80) rfl _ (uV kList) rfl rfl 129 (uV (List.replicate 64 0)) (by first | exact keep_other hv4 hc3 (by decide) _ | exact keep_other hv4 (block_alloc (hc3) _) (by decide) _ | exact keep_other hv4 ((kq.block _ (lt_of_block (hc3)) (by simp)).trans (hc3)) (by decide) _ | exact keep_other hv4 (block_alloc ((kq.block _ (lt_of_block (hc3)) (by simp)).trans (hc3)) _) (by decide) _ | exact keep_other hv4 ((kq.block _ (lt_of_block (block_alloc (hc3) _)) (by simp)).trans (block_alloc (hc3) _)) (by decide) _) (by rw [uV_len]; exact size64) rfl (uV_one _) (fun hk4 hk5 => ?_)
            refine hK_.out _ _ (by exact hHeld.setRow (.inr (by first | exact hz3 | (simp at hz3 ⊢ <;> omega))) _) (fun hHeld => ?_)
            clear hK_ K
            try simp only [Act.put, List.setIfInBounds_toArray, List.set_cons_zero, List.set_cons_succ]
            refine wpB_done (by kernel_rfl) ?_ _
            refine ⟨_, _, rfl, hHeld, keep_other hk4 hv5 (by decide) _, hk5, ?_, ?_, ne_of_types hk4 hv5 (by decide)⟩
            · first | exact hz2 | (simp at hz2 ⊢ <;> omega)
            · first | exact hz3 | (simp at hz3 ⊢ <;> omega)
      · rintro a W ⟨gv, gq, rfl, hKW, hv, hkk, hzv, hzk, hne⟩
        try simp only [Act.put, List.setIfInBounds_toArray, List.set_cons_zero, List.set_cons_succ]
        have hWW := (hKW.block _ (lt_of_block hW) (by simp)).trans hW
        have bsW := HB1.out _ hKW
        have hKwc : Kp [gw] wc W := hK.trans (hKW.weaken (fun _ _ h => by cases h))
        have brW := (hKwc.block _ (lt_of_block brc) (by simp only [List.mem_singleton]; omega)).trans brc
        have hgwl := lt_of_block hW
        obtain ⟨s0, s1, s2, s3, s4, s5, s6, s7, hs8⟩ := eight hs
        have hv' : W.heap[gv]? = some (.cells #[.int .u32 s0, .int .u32 s1, .int .u32 s2, .int .u32 s3, .int .u32 s4, .int .u32 s5, .int .u32 s6, .int .u32 s7] 107 (0, 0)) := by rw [hv, hs8]; rfl
        have hr0 : rounds b s 0 = [s0, s1, s2, s3, s4, s5, s6, s7] := hs8
        have hKX := Kp.refl [gv] W
        obtain ⟨wd, hwd⟩ : ∃ wd : World, wd = W := ⟨_, rfl⟩
        rw [← hwd] at hv' hKX hKW hWW bsW brW hkk hKwc ⊢
        have hnw : gw ≠ gv := by omega
        have hnq : gq ≠ gv := Ne.symm hne
        have hns : gs ≠ gv := by omega
        have hnr : gr ≠ gv := by omega
        have HHS := Lib.hid hs8
        clear hwd hv hW hs8
        go_wp2_with fail
        go_loopg [81] 64 (fun g i wr => ∃ (n : Nat) (v0 v1 v2 v3 v4 v5 v6 v7 : Int), n + g = 64 ∧ i = .int .i64 n ∧ Kp [gv] wd wr ∧ wr.heap[gv]? = some (.cells #[.int .u32 v0, .int .u32 v1, .int .u32 v2, .int .u32 v3, .int .u32 v4, .int .u32 v5, .int .u32 v6, .int .u32 v7] 107 (0, 0)) ∧ rounds b s n = [v0, v1, v2, v3, v4, v5, v6, v7])
        case atStart => exact ⟨0, s0, s1, s2, s3, s4, s5, s6, s7, rfl, rfl, hKX, hv', hr0⟩
        case round =>
          clear hKX hv' hr0
          obtain ⟨n, v0, v1, v2, v3, v4, v5, v6, v7, hn, rfl, hKr, hvr, hrr⟩ := hrel
          have HN := Lib.hid hn
          have HRR := Lib.hid hrr
          clear hrr
          by_cases hlt : n < 64
          · obtain ⟨g', rfl⟩ : ∃ g', gk = g' + 1 := ⟨gk - 1, by omega⟩
            clear hn
            have hltI : (n : Int) < 64 := by omega
            have hbn : 0 ≤ (n : Int) ∧ (n : Int) < 64 := by omega
            have pw := Kp.cellAt (X := []) (uV_cell' ((hKr.block gw (lt_of_block hWW) (by simpa using hnw)).trans hWW) n _ (wAll_64 b n hlt)) (by simp)
            have pk := Kp.cellAt (X := []) (uV_cell' ((hKr.block gq (lt_of_block hkk) (by simpa using hnq)).trans hkk) n _ (kList_at n hlt)) (by simp)
            have p0 := Kp.cellAt (X := []) (cell_of_cells (o := 0) (v := .int .u32 v0) hvr rfl) (by simp)
            have p1 := Kp.cellAt (X := []) (cell_of_cells (o := 1) (v := .int .u32 v1) hvr rfl) (by simp)
            have p2 := Kp.cellAt (X := []) (cell_of_cells (o := 2) (v := .int .u32 v2) hvr rfl) (by simp)
            have p4 := Kp.cellAt (X := []) (cell_of_cells (o := 4) (v := .int .u32 v4) hvr rfl) (by simp)
            have p5 := Kp.cellAt (X := []) (cell_of_cells (o := 5) (v := .int .u32 v5) hvr rfl) (by simp)
            have p6 := Kp.cellAt (X := []) (cell_of_cells (o := 6) (v := .int .u32 v6) hvr rfl) (by simp)
            have p7 := Kp.cellAt (X := []) (cell_of_cells (o := 7) (v := .int .u32 v7) hvr rfl) (by simp)
            obtain ⟨kn, hkn⟩ : ∃ kn, kn = kList.getD n 0 := ⟨_, rfl⟩
            obtain ⟨wn, hwn⟩ : ∃ wn, wn = (sched b 64).getD n 0 := ⟨_, rfl⟩
            rw [← hkn] at pk
            rw [← hwn] at pw
            have hnx : rounds b s (n + 1) = rnd [v0, v1, v2, v3, v4, v5, v6, v7] kn wn := by rw [hkn, hwn, ← HRR.out]; rfl
            have HNX := Lib.hid hnx
            clear hkn hwn hnx
            go_wp2_with fail
            refine wpB_begin 999 (Kp [] wr) (by kernel_rfl) (by exact (Kp.refl _ _).drew) (fun hHeld => ?_)
            refine wpB_take 0 _ ?_ rfl (by kernel_rfl) (fun _ _ _ h => h) rfl hHeld ?_ ?_
            rotate_left
            · (intro W hW; go_simp; try with_reducible rfl)
            try simp only [Act.put, List.setIfInBounds_toArray, List.set_cons_zero, List.set_cons_succ]
            refine wpB_take 1 _ ?_ rfl (by kernel_rfl) (fun _ _ _ h => h) rfl hHeld ?_ ?_
            rotate_left
            · (intro W hW; go_simp; try with_reducible rfl)
            try simp only [Act.put, List.setIfInBounds_toArray, List.set_cons_zero, List.set_cons_succ]
            refine wpB_take 2 _ ?_ rfl (by kernel_rfl) (fun _ _ _ h => h) rfl hHeld ?_ ?_
            rotate_left
            · (intro W hW; go_simp; try with_reducible rfl)
            try simp only [Act.put, List.setIfInBounds_toArray, List.set_cons_zero, List.set_cons_succ]
            refine wpB_take 3 _ ?_ rfl (by kernel_rfl) (fun _ _ _ h => h) rfl hHeld ?_ ?_
            rotate_left
            · (intro W hW; go_simp; try with_reducible rfl)
            try simp only [Act.put, List.setIfInBounds_toArray, List.set_cons_zero, List.set_cons_succ]
            refine wpB_take 4 _ ?_ rfl (by kernel_rfl) (fun _ _ _ h => h) rfl hHeld ?_ ?_
            rotate_left
            · (intro W hW; go_simp; try with_reducible rfl)
            try simp only [Act.put, List.setIfInBounds_toArray, List.set_cons_zero, List.set_cons_succ]
            refine wpB_take 5 _ ?_ rfl (by kernel_rfl) (fun _ _ _ h => h) rfl hHeld ?_ ?_
            rotate_left
            · (intro W hW; go_simp; try with_reducible rfl)
            try simp only [Act.put, List.setIfInBounds_toArray, List.set_cons_zero, List.set_cons_succ]
            refine wpB_done (by kernel_rfl) ?_ _
            go_wp2_with fail
            refine wpB_begin 999 (Kp [] wr) (by kernel_rfl) (by exact hHeld.drew) (fun hHeld => ?_)
            refine wpB_take 0 _ ?_ rfl (by kernel_rfl) (fun _ _ _ h => h) rfl hHeld ?_ ?_
            rotate_left
            · (intro W hW; go_simp; try with_reducible rfl)
            try simp only [Act.put, List.setIfInBounds_toArray, List.set_cons_zero, List.set_cons_succ]
            refine wpB_take 1 _ ?_ rfl (by kernel_rfl) (fun _ _ _ h => h) rfl hHeld ?_ ?_
            rotate_left
            · (intro W hW; go_simp; try with_reducible rfl)
            try simp only [Act.put, List.setIfInBounds_toArray, List.set_cons_zero, List.set_cons_succ]
            refine wpB_take 2 _ ?_ rfl (by kernel_rfl) (fun _ _ _ h => h) rfl hHeld ?_ ?_
            rotate_left
            · (intro W hW; go_simp; try with_reducible rfl)
            try simp only [Act.put, List.setIfInBounds_toArray, List.set_cons_zero, List.set_cons_succ]
            refine wpB_take 4 _ ?_ rfl (by kernel_rfl) (fun _ _ _ h => h) rfl hHeld ?_ ?_
            rotate_left
            · (intro W hW; go_simp; try with_reducible rfl)
            try simp only [Act.put, List.setIfInBounds_toArray, List.set_cons_zero, List.set_cons_succ]
            refine wpB_take 7 _ ?_ rfl (by kernel_rfl) (fun _ _ _ h => h) rfl hHeld ?_ ?_
            rotate_left
            · (intro W hW; go_simp; try with_reducible rfl)
            try simp only [Act.put, List.setIfInBounds_toArray, List.set_cons_zero, List.set_cons_succ]
            refine wpB_take 11 _ ?_ rfl (by kernel_rfl) (fun _ _ _ h => h) rfl hHeld ?_ ?_
            rotate_left
            · (intro W hW; go_simp; try with_reducible rfl)
            try simp only [Act.put, List.setIfInBounds_toArray, List.set_cons_zero, List.set_cons_succ]
            refine wpB_take 12 _ ?_ rfl (by kernel_rfl) (fun _ _ _ h => h) rfl hHeld ?_ ?_
            rotate_left
            · (intro W hW; go_simp; try with_reducible rfl)
            try simp only [Act.put, List.setIfInBounds_toArray, List.set_cons_zero, List.set_cons_succ]
            refine wpB_take 13 _ ?_ rfl (by kernel_rfl) (fun _ _ _ h => h) rfl hHeld ?_ ?_
            rotate_left
            · (intro W hW; go_simp; try with_reducible rfl)
            try simp only [Act.put, List.setIfInBounds_toArray, List.set_cons_zero, List.set_cons_succ]
            refine wpB_take 14 _ ?_ rfl (by kernel_rfl) (fun _ _ _ h => h) rfl hHeld ?_ ?_
            rotate_left
            · (intro W hW; go_simp; try with_reducible rfl)
            try simp only [Act.put, List.setIfInBounds_toArray, List.set_cons_zero, List.set_cons_succ]
            refine wpB_take 15 _ ?_ rfl (by kernel_rfl) (fun _ _ _ h => h) rfl hHeld ?_ ?_
            rotate_left
            · (intro W hW; go_simp; try with_reducible rfl)
            try simp only [Act.put, List.setIfInBounds_toArray, List.set_cons_zero, List.set_cons_succ]
            refine wpB_take 16 _ ?_ rfl (by kernel_rfl) (fun _ _ _ h => h) rfl hHeld ?_ ?_
            rotate_left
            · (intro W hW; go_simp; try with_reducible rfl)
            try simp only [Act.put, List.setIfInBounds_toArray, List.set_cons_zero, List.set_cons_succ]
            refine wpB_take 17 _ ?_ rfl (by kernel_rfl) (fun _ _ _ h => h) rfl hHeld ?_ ?_
            rotate_left
            · (intro W hW; go_simp; try with_reducible rfl)
            try simp only [Act.put, List.setIfInBounds_toArray, List.set_cons_zero, List.set_cons_succ]
            refine wpB_take 18 _ ?_ rfl (by kernel_rfl) (fun _ _ _ h => h) rfl hHeld ?_ ?_
            rotate_left
            · (intro W hW; go_simp; try with_reducible rfl)
            try simp only [Act.put, List.setIfInBounds_toArray, List.set_cons_zero, List.set_cons_succ]
            refine wpB_take 19 _ ?_ rfl (by kernel_rfl) (fun _ _ _ h => h) rfl hHeld ?_ ?_
            rotate_left
            · (intro W hW; go_simp; try with_reducible rfl)
            try simp only [Act.put, List.setIfInBounds_toArray, List.set_cons_zero, List.set_cons_succ]
            refine wpB_take 20 _ ?_ rfl (by kernel_rfl) (fun _ _ _ h => h) rfl hHeld ?_ ?_
            rotate_left
            · (intro W hW; go_simp; try with_reducible rfl)
            try simp only [Act.put, List.setIfInBounds_toArray, List.set_cons_zero, List.set_cons_succ]
            refine wpB_take 22 _ ?_ rfl (by kernel_rfl) (fun _ _ _ h => h) rfl hHeld ?_ ?_
            rotate_left
            · (intro W hW; go_simp; try with_reducible rfl)
            try simp only [Act.put, List.setIfInBounds_toArray, List.set_cons_zero, List.set_cons_succ]
            refine wpB_take 23 _ ?_ rfl (by kernel_rfl) (fun _ _ _ h => h) rfl hHeld ?_ ?_
            rotate_left
            · (intro W hW; go_simp; try with_reducible rfl)
            try simp only [Act.put, List.setIfInBounds_toArray, List.set_cons_zero, List.set_cons_succ]
            refine wpB_take 24 _ ?_ rfl (by kernel_rfl) (fun _ _ _ h => h) rfl hHeld ?_ ?_
            rotate_left
            · (intro W hW; go_simp; try with_reducible rfl)
            try simp only [Act.put, List.setIfInBounds_toArray, List.set_cons_zero, List.set_cons_succ]
            refine wpB_take 26 _ ?_ rfl (by kernel_rfl) (fun _ _ _ h => h) rfl hHeld ?_ ?_
            rotate_left
            · (intro W hW; go_simp; try with_reducible rfl)
            try simp only [Act.put, List.setIfInBounds_toArray, List.set_cons_zero, List.set_cons_succ]
            refine wpB_take 27 _ ?_ rfl (by kernel_rfl) (fun _ _ _ h => h) rfl hHeld ?_ ?_
            rotate_left
            · (intro W hW; go_simp; try with_reducible rfl)
            try simp only [Act.put, List.setIfInBounds_toArray, List.set_cons_zero, List.set_cons_succ]
            refine wpB_take 28 _ ?_ rfl (by kernel_rfl) (fun _ _ _ h => h) rfl hHeld ?_ ?_
            rotate_left
            · (intro W hW; go_simp; try with_reducible rfl)
            try simp only [Act.put, List.setIfInBounds_toArray, List.set_cons_zero, List.set_cons_succ]
            refine wpB_step 3 _ rfl (by kernel_rfl) rfl rfl (fun K hK_ => ?_)
            go_simp
            refine (dright _ _ (by decide) (by decide) _).mono ?_
            rintro e wq ⟨rfl, kq⟩
            refine hK_.out _ _ (by exact hHeld.trans kq) (fun hHeld => ?_)
            clear hK_ K
            try simp only [Act.put, List.setIfInBounds_toArray, List.set_cons_zero, List.set_cons_succ]
            refine wpB_step 5 _ rfl (by kernel_rfl) rfl rfl (fun K hK_ => ?_)
            go_simp
            refine (dright _ _ (by decide) (by decide) _).mono ?_
            rintro e wq ⟨rfl, kq⟩
            refine hK_.out _ _ (by exact hHeld.trans kq) (fun hHeld => ?_)
            clear hK_ K
            try simp only [Act.put, List.setIfInBounds_toArray, List.set_cons_zero, List.set_cons_succ]
            refine wpB_take 6 _ ?_ rfl (by kernel_rfl) (fun _ _ _ h => h) rfl hHeld ?_ ?_
            rotate_left
            · (intro W hW; go_simp; try with_reducible rfl)
            try simp only [Act.put, List.setIfInBounds_toArray, List.set_cons_zero, List.set_cons_succ]
            refine wpB_step 8 _ rfl (by kernel_rfl) rfl rfl (fun K hK_ => ?_)
            go_simp
            refine (dright _ _ (by decide) (by decide) _).mono ?_
            rintro e wq ⟨rfl, kq⟩
            refine hK_.out _ _ (by exact hHeld.trans kq) (fun hHeld => ?_)
            clear hK_ K
            try simp only [Act.put, List.setIfInBounds_toArray, List.set_cons_zero, List.set_cons_succ]
            refine wpB_take 9 _ ?_ rfl (by kernel_rfl) (fun _ _ _ h => h) rfl hHeld ?_ ?_
            rotate_left
            · (intro W hW; go_simp; try with_reducible rfl)
            try simp only [Act.put, List.setIfInBounds_toArray, List.set_cons_zero, List.set_cons_succ]
            refine wpB_take 10 _ ?_ rfl (by kernel_rfl) (fun _ _ _ h => h) rfl hHeld ?_ ?_
            rotate_left
            · (intro W hW; go_simp; try with_reducible rfl)
            try simp only [Act.put, List.setIfInBounds_toArray, List.set_cons_zero, List.set_cons_succ]
            refine wpB_take 21 _ ?_ rfl (by kernel_rfl) (fun _ _ _ h => h) rfl hHeld ?_ ?_
            rotate_left
            · (intro W hW; go_simp; try with_reducible rfl)
            try simp only [Act.put, List.setIfInBounds_toArray, List.set_cons_zero, List.set_cons_succ]
            refine wpB_take 25 _ ?_ rfl (by kernel_rfl) (fun _ _ _ h => h) rfl hHeld ?_ ?_
            rotate_left
            · (intro W hW; go_simp; try with_reducible rfl)
            try simp only [Act.put, List.setIfInBounds_toArray, List.set_cons_zero, List.set_cons_succ]
            refine wpB_take 29 _ ?_ rfl (by kernel_rfl) (fun _ _ _ h => h) rfl hHeld ?_ ?_
            rotate_left
            · (intro W hW; go_simp; try with_reducible rfl)
            try simp only [Act.put, List.setIfInBounds_toArray, List.set_cons_zero, List.set_cons_succ]
            refine wpB_take 30 _ ?_ rfl (by kernel_rfl) (fun _ _ _ h => h) rfl hHeld ?_ ?_
            rotate_left
            · (intro W hW; go_simp; try with_reducible rfl)
            try simp only [Act.put, List.setIfInBounds_toArray, List.set_cons_zero, List.set_cons_succ]
            refine wpB_done (by kernel_rfl) ?_ _
            go_wp2_with fail
            refine wpB_begin 999 (Kp [] wr) (by kernel_rfl) (by exact hHeld.drew) (fun hHeld => ?_)
            refine wpB_take 0 _ ?_ rfl (by kernel_rfl) (fun _ _ _ h => h) rfl hHeld ?_ ?_
            rotate_left
            · (intro W hW; go_simp; try with_reducible rfl)
            try simp only [Act.put, List.setIfInBounds_toArray, List.set_cons_zero, List.set_cons_succ]
            refine wpB_take 2 _ ?_ rfl (by kernel_rfl) (fun _ _ _ h => h) rfl hHeld ?_ ?_
            rotate_left
            · (intro W hW; go_simp; try with_reducible rfl)
            try simp only [Act.put, List.setIfInBounds_toArray, List.set_cons_zero, List.set_cons_succ]
            refine wpB_take 5 _ ?_ rfl (by kernel_rfl) (fun _ _ _ h => h) rfl hHeld ?_ ?_
            rotate_left
            · (intro W hW; go_simp; try with_reducible rfl)
            try simp only [Act.put, List.setIfInBounds_toArray, List.set_cons_zero, List.set_cons_succ]
            refine wpB_take 8 _ ?_ rfl (by kernel_rfl) (fun _ _ _ h => h) rfl hHeld ?_ ?_
            rotate_left
            · (intro W hW; go_simp; try with_reducible rfl)
            try simp only [Act.put, List.setIfInBounds_toArray, List.set_cons_zero, List.set_cons_succ]
            refine wpB_take 9 _ ?_ rfl (by kernel_rfl) (fun _ _ _ h => h) rfl hHeld ?_ ?_
            rotate_left
            · (intro W hW; go_simp; try with_reducible rfl)
            try simp only [Act.put, List.setIfInBounds_toArray, List.set_cons_zero, List.set_cons_succ]
            refine wpB_take 10 _ ?_ rfl (by kernel_rfl) (fun _ _ _ h => h) rfl hHeld ?_ ?_
            rotate_left
            · (intro W hW; go_simp; try with_reducible rfl)
            try simp only [Act.put, List.setIfInBounds_toArray, List.set_cons_zero, List.set_cons_succ]
            refine wpB_take 11 _ ?_ rfl (by kernel_rfl) (fun _ _ _ h => h) rfl hHeld ?_ ?_
            rotate_left
            · (intro W hW; go_simp; try with_reducible rfl)
            try simp only [Act.put, List.setIfInBounds_toArray, List.set_cons_zero, List.set_cons_succ]
            refine wpB_take 12 _ ?_ rfl (by kernel_rfl) (fun _ _ _ h => h) rfl hHeld ?_ ?_
            rotate_left
            · (intro W hW; go_simp; try with_reducible rfl)
            try simp only [Act.put, List.setIfInBounds_toArray, List.set_cons_zero, List.set_cons_succ]
            refine wpB_take 13 _ ?_ rfl (by kernel_rfl) (fun _ _ _ h => h) rfl hHeld ?_ ?_
            rotate_left
            · (intro W hW; go_simp; try with_reducible rfl)
            try simp only [Act.put, List.setIfInBounds_toArray, List.set_cons_zero, List.set_cons_succ]
            refine wpB_take 14 _ ?_ rfl (by kernel_rfl) (fun _ _ _ h => h) rfl hHeld ?_ ?_
            rotate_left
            · (intro W hW; go_simp; try with_reducible rfl)
            try simp only [Act.put, List.setIfInBounds_toArray, List.set_cons_zero, List.set_cons_succ]
            refine wpB_take 15 _ ?_ rfl (by kernel_rfl) (fun _ _ _ h => h) rfl hHeld ?_ ?_
            rotate_left
            · (intro W hW; go_simp; try with_reducible rfl)
            try simp only [Act.put, List.setIfInBounds_toArray, List.set_cons_zero, List.set_cons_succ]
            refine wpB_take 16 _ ?_ rfl (by kernel_rfl) (fun _ _ _ h => h) rfl hHeld ?_ ?_
            rotate_left
            · (intro W hW; go_simp; try with_reducible rfl)
            try simp only [Act.put, List.setIfInBounds_toArray, List.set_cons_zero, List.set_cons_succ]
            refine wpB_take 17 _ ?_ rfl (by kernel_rfl) (fun _ _ _ h => h) rfl hHeld ?_ ?_
            rotate_left
            · (intro W hW; go_simp; try with_reducible rfl)
            try simp only [Act.put, List.setIfInBounds_toArray, List.set_cons_zero, List.set_cons_succ]
            refine wpB_take 18 _ ?_ rfl (by kernel_rfl) (fun _ _ _ h => h) rfl hHeld ?_ ?_
            rotate_left
            · (intro W hW; go_simp; try with_reducible rfl)
            try simp only [Act.put, List.setIfInBounds_toArray, List.set_cons_zero, List.set_cons_succ]
            refine wpB_take 19 _ ?_ rfl (by kernel_rfl) (fun _ _ _ h => h) rfl hHeld ?_ ?_
            rotate_left
            · (intro W hW; go_simp; try with_reducible rfl)
            try simp only [Act.put, List.setIfInBounds_toArray, List.set_cons_zero, List.set_cons_succ]
            refine wpB_step 1 _ rfl (by kernel_rfl) rfl rfl (fun K hK_ => ?_)
            go_simp
            refine (dright _ _ (by decide) (by decide) _).mono ?_
            rintro e wq ⟨rfl, kq⟩
            refine hK_.out _ _ (by exact hHeld.trans kq) (fun hHeld => ?_)
            clear hK_ K
            try simp only [Act.put, List.setIfInBounds_toArray, List.set_cons_zero, List.set_cons_succ]
            refine wpB_step 3 _ rfl (by kernel_rfl) rfl rfl (fun K hK_ => ?_)
            go_simp
            refine (dright _ _ (by decide) (by decide) _).mono ?_
            rintro e wq ⟨rfl, kq⟩
            refine hK_.out _ _ (by exact hHeld.trans kq) (fun hHeld => ?_)
            clear hK_ K
            try simp only [Act.put, List.setIfInBounds_toArray, List.set_cons_zero, List.set_cons_succ]
            refine wpB_take 4 _ ?_ rfl (by kernel_rfl) (fun _ _ _ h => h) rfl hHeld ?_ ?_
            rotate_left
            · (intro W hW; go_simp; try with_reducible rfl)
            try simp only [Act.put, List.setIfInBounds_toArray, List.set_cons_zero, List.set_cons_succ]
            refine wpB_step 6 _ rfl (by kernel_rfl) rfl rfl (fun K hK_ => ?_)
            go_simp
            refine (dright _ _ (by decide) (by decide) _).mono ?_
            rintro e wq ⟨rfl, kq⟩
            refine hK_.out _ _ (by exact hHeld.trans kq) (fun hHeld => ?_)
            clear hK_ K
            try simp only [Act.put, List.setIfInBounds_toArray, List.set_cons_zero, List.set_cons_succ]
            refine wpB_take 7 _ ?_ rfl (by kernel_rfl) (fun _ _ _ h => h) rfl hHeld ?_ ?_
            rotate_left
            · (intro W hW; go_simp; try with_reducible rfl)
            try simp only [Act.put, List.setIfInBounds_toArray, List.set_cons_zero, List.set_cons_succ]
            refine wpB_take 20 _ ?_ rfl (by kernel_rfl) (fun _ _ _ h => h) rfl hHeld ?_ ?_
            rotate_left
            · (intro W hW; go_simp; try with_reducible rfl)
            try simp only [Act.put, List.setIfInBounds_toArray, List.set_cons_zero, List.set_cons_succ]
            refine wpB_take 21 _ ?_ rfl (by kernel_rfl) (fun _ _ _ h => h) rfl hHeld ?_ ?_
            rotate_left
            · (intro W hW; go_simp; try with_reducible rfl)
            try simp only [Act.put, List.setIfInBounds_toArray, List.set_cons_zero, List.set_cons_succ]
            refine wpB_done (by kernel_rfl) ?_ _
            obtain ⟨T, hT⟩ : ∃ T, T = tF v4 v5 v6 v7 kn wn := ⟨_, rfl⟩
            obtain ⟨U, hU⟩ : ∃ U, U = uF v0 v1 v2 := ⟨_, rfl⟩
            have hT2 : IntKind.u32.wrap (IntKind.u32.wrap (IntKind.u32.wrap (IntKind.u32.wrap (v7 + bits BinOp.xor .u32 (bits BinOp.xor .u32 (rotr v4 6) (rotr v4 11)) (rotr v4 25)) + bits BinOp.xor .u32 v6 (bits BinOp.and .u32 v4 (bits BinOp.xor .u32 v5 v6))) + kn) + wn) = T := hT.symm
            have hU2 : IntKind.u32.wrap (bits BinOp.xor .u32 (bits BinOp.xor .u32 (rotr v0 2) (rotr v0 13)) (rotr v0 22) + bits BinOp.or .u32 (bits BinOp.and .u32 v0 v1) (bits BinOp.and .u32 v2 (bits BinOp.or .u32 v0 v1))) = U := hU.symm
            simp only [hT2, hU2]
            have HT := Lib.hid hT
            have HU := Lib.hid hU
            clear hT hU hT2 hU2
            have hH2 := hHeld
            have hb2 := (hH2.block _ (lt_of_block hvr) (by simp)).trans hvr
            clear hHeld pw pk p0 p1 p2 p4 p5 p6 p7
            go_wp2_with fail
            have hcp : (Builtin.copy_ #[83, 83] 3 #[.slice (some ⟨gv, 1, none⟩) 7 7, .slice (some ⟨gv, 0, none⟩) 7 8]).run Tryd.prog wq.drew = .ok (goInt 7) (wq.drew.setRow gv #[.int .u32 v0, .int .u32 v0, .int .u32 v1, .int .u32 v2, .int .u32 v3, .int .u32 v4, .int .u32 v5, .int .u32 v6]) :=
              run_copy_row (P := Tryd.prog) wq.drew 83 83 3 82 gv 1 7 7 ⟨gv, 0, none⟩ 7 8 #[.int .u32 v0, .int .u32 v1, .int .u32 v2, .int .u32 v3, .int .u32 v4, .int .u32 v5, .int .u32 v6, .int .u32 v7] 107 [.int .u32 v0, .int .u32 v1, .int .u32 v2, .int .u32 v3, .int .u32 v4, .int .u32 v5, .int .u32 v6] (by kernel_rfl) (by kernel_rfl) hb2 rfl
                (fun j u hj => by
                  rw [Addr.add_mid, Nat.zero_add]
                  refine cell_of_cells hb2 ?_
                  match j, hj with
                  | 0, h | 1, h | 2, h | 3, h | 4, h | 5, h | 6, h => exact h
                  | n + 7, h => cases h) (by simp) (by
                  intro u hu
                  simp only [List.mem_cons, List.not_mem_nil, or_false] at hu
                  rcases hu with rfl | rfl | rfl | rfl | rfl | rfl | rfl <;> rfl)
            refine wpB_begin 2 (Kp [] wq) (by kernel_rfl) (by exact (Kp.refl _ _).drew) (fun hHeld => ?_)
            refine wpB_take 0 _ ?_ rfl (by kernel_rfl) (fun _ _ _ h => h) rfl hHeld ?_ ?_
            rotate_left
            · (intro W hW; go_simp; try with_reducible rfl)
            try simp only [Act.put, List.setIfInBounds_toArray, List.set_cons_zero, List.set_cons_succ]
            refine wpB_take 1 _ ?_ rfl (by kernel_rfl) (fun _ _ _ h => h) rfl hHeld ?_ ?_
            rotate_left
            · (intro W hW; go_simp; try with_reducible rfl)
            try simp only [Act.put, List.setIfInBounds_toArray, List.set_cons_zero, List.set_cons_succ]
            refine wpB_bar (Kp [gv] wq) 999 _ rfl (by kernel_rfl) rfl (fun K hK_ => ?_)
            go_simp
            refine hK_.out _ _ (by exact (hHeld.weaken (fun _ _ h => by cases h)).setRow (.inl (by simp)) _) (fun hHeld => ?_)
            clear hK_ K
            try simp only [Act.put, List.setIfInBounds_toArray, List.set_cons_zero, List.set_cons_succ]
            refine wpB_done (by kernel_rfl) ?_ _
            have hb3 : (wq.drew.setRow gv #[.int .u32 v0, .int .u32 v0, .int .u32 v1, .int .u32 v2, .int .u32 v3, .int .u32 v4, .int .u32 v5, .int .u32 v6]).heap[gv]? = some (.cells #[.int .u32 v0, .int .u32 v0, .int .u32 v1, .int .u32 v2, .int .u32 v3, .int .u32 v4, .int .u32 v5, .int .u32 v6] 107 (0, 0)) := setRow_heap _ _ _ _ _ _ hb2
            obtain ⟨wy, hwy⟩ : ∃ wy, wy = wq.drew.setRow gv #[.int .u32 v0, .int .u32 v0, .int .u32 v1, .int .u32 v2, .int .u32 v3, .int .u32 v4, .int .u32 v5, .int .u32 v6] := ⟨_, rfl⟩
            rw [← hwy] at hb3 hHeld ⊢
            have hKy : Kp [gv] wd wy := (hKr.trans (hH2.weaken (fun _ _ h => by cases h))).trans hHeld
            have q0 := cell_of_cells (o := 0) hb3 rfl
            have q4 := cell_of_cells (o := 4) (v := .int .u32 v3) hb3 rfl
            have qf0 := frozen_of_cells hb3 0
            have qf4 := frozen_of_cells hb3 4
            clear hcp hwy hHeld hH2
            go_wp2_with fail
            have hfin : rounds b s (n + 1) = [IntKind.u32.wrap (T + U), v0, v1, v2, IntKind.u32.wrap (v3 + T), v4, v5, v6] := by rw [HT.out, HU.out]; exact HNX.out
            have hbz := block_setCell (block_setCell hb3 0 (.int .u32 (IntKind.u32.wrap (T + U)))) 4 (.int .u32 (IntKind.u32.wrap (v3 + T)))
            have hKz := (hKy.setCell (p := ⟨gv, 0, none⟩) (.inl (by simp)) (.int .u32 (IntKind.u32.wrap (T + U)))).setCell (p := ⟨gv, 4, none⟩) (.inl (by simp)) (.int .u32 (IntKind.u32.wrap (v3 + T)))
            go_roundg g'
            case rel => exact ⟨n + 1, _, _, _, _, _, _, _, _, by have := HN.out; omega, by go_num, hKz, hbz, hfin⟩
            case measure => omega
          · obtain rfl : n = 64 := by omega
            obtain rfl : gk = 0 := by omega
            clear hn
            obtain ⟨V, hV⟩ : ∃ V, V = [v0, v1, v2, v3, v4, v5, v6, v7] := ⟨_, rfl⟩
            have hVl : V.length = 8 := by rw [hV]; rfl
            have hvV : wr.heap[gv]? = some (.cells (uV V) 107 (0, 0)) := by rw [hV]; exact hvr
            have hVR : rounds b s 64 = V := by rw [HRR.out, hV]
            have bsR := (hKr.block gs (lt_of_block bsW) (by simpa using hns)).trans bsW
            have brR := (hKr.block gr (lt_of_block brW) (by simpa using hnr)).trans brW
            have hgsv : gs ≠ gv := hns
            have hKY := Kp.refl [gs] wr
            have hS0 : wr.heap[gs]? = some (.cells (uV (addL s V 0)) 107 (0, 0)) := bsR
            obtain ⟨we, hwe⟩ : ∃ we : World, we = wr := ⟨_, rfl⟩
            rw [← hwe] at hKY hS0 hvV brR hKr ⊢
            clear hwe hvr hV bsR
            go_wp2_with fail
            go_loopg [152] 8 (fun g i wr => ∃ n : Nat, n + g = 8 ∧ i = .int .i64 n ∧ Kp [gs] we wr ∧ wr.heap[gs]? = some (.cells (uV (addL s V n)) 107 (0, 0)))
            case atStart => exact ⟨0, rfl, rfl, hKY, hS0⟩
            case round =>
              clear hKY hS0
              obtain ⟨n, hn, rfl, hKs, hSs⟩ := hrel
              have HN := Lib.hid hn
              by_cases hlt : n < 8
              · obtain ⟨g', rfl⟩ : ∃ g', gk = g' + 1 := ⟨gk - 1, by omega⟩
                clear hn
                have hltI : (n : Int) < 8 := by omega
                have hbn : 0 ≤ (n : Int) ∧ (n : Int) < 8 := by omega
                obtain ⟨a1, a2, a3⟩ := addL_at hs hVl n hlt
                have ps := Kp.cellAt (X := []) (uV_cell' hSs n _ a1) (by simp)
                have pf : ∀ W, Kp [] wr W → W.frozen? ⟨gs, n, none⟩ = false := Kp.frozenAt (uV_cell' hSs n _ a1) (frozen_of_cells hSs _) (by simp)
                have pv := Kp.cellAt (X := []) (uV_cell' ((hKs.block gv (lt_of_block hvV) (by simpa using Ne.symm hgsv)).trans hvV) n _ a2) (by simp)
                obtain ⟨x, hx⟩ : ∃ x, x = s.getD n 0 := ⟨_, rfl⟩
                obtain ⟨y, hy⟩ : ∃ y, y = V.getD n 0 := ⟨_, rfl⟩
                rw [← hx] at ps a3
                rw [← hy] at pv a3
                have hset := uV_set hSs n (IntKind.u32.wrap (x + y))
                rw [a3] at hset
                have HSET := Lib.hid hset
                clear hx hy hset a1 a2 a3
                go_wp2_with fail
                refine wpB_begin 8 (Kp [] wr) (by kernel_rfl) (by exact (Kp.refl _ _).drew) (fun hHeld => ?_)
                refine wpB_take 0 _ ?_ rfl (by kernel_rfl) (fun _ _ _ h => h) rfl hHeld ?_ ?_
                rotate_left
                · (intro W hW; go_simp; try with_reducible rfl)
                try simp only [Act.put, List.setIfInBounds_toArray, List.set_cons_zero, List.set_cons_succ]
                refine wpB_take 1 _ ?_ rfl (by kernel_rfl) (fun _ _ _ h => h) rfl hHeld ?_ ?_
                rotate_left
                · (intro W hW; go_simp; try with_reducible rfl)
                try simp only [Act.put, List.setIfInBounds_toArray, List.set_cons_zero, List.set_cons_succ]
                refine wpB_take 2 _ ?_ rfl (by kernel_rfl) (fun _ _ _ h => h) rfl hHeld ?_ ?_
                rotate_left
                · (intro W hW; go_simp; try with_reducible rfl)
                try simp only [Act.put, List.setIfInBounds_toArray, List.set_cons_zero, List.set_cons_succ]
                refine wpB_take 3 _ ?_ rfl (by kernel_rfl) (fun _ _ _ h => h) rfl hHeld ?_ ?_
                rotate_left
                · (intro W hW; go_simp; try with_reducible rfl)
                try simp only [Act.put, List.setIfInBounds_toArray, List.set_cons_zero, List.set_cons_succ]
                refine wpB_take 4 _ ?_ rfl (by kernel_rfl) (fun _ _ _ h => h) rfl hHeld ?_ ?_
                rotate_left
                · (intro W hW; go_simp; try with_reducible rfl)
                try simp only [Act.put, List.setIfInBounds_toArray, List.set_cons_zero, List.set_cons_succ]
                refine wpB_take 5 _ ?_ rfl (by kernel_rfl) (fun _ _ _ h => h) rfl hHeld ?_ ?_
                rotate_left
                · (intro W hW; go_simp; try with_reducible rfl)
                try simp only [Act.put, List.setIfInBounds_toArray, List.set_cons_zero, List.set_cons_succ]
                refine wpB_take 6 _ ?_ rfl (by kernel_rfl) (fun _ _ _ h => h) rfl hHeld ?_ ?_
                rotate_left
                · (intro W hW; go_simp; try with_reducible rfl)
                try simp only [Act.put, List.setIfInBounds_toArray, List.set_cons_zero, List.set_cons_succ]
                refine wpB_take 7 _ ?_ rfl (by kernel_rfl) (fun _ _ _ h => h) rfl hHeld ?_ ?_
                rotate_left
                · (intro W hW; go_simp; try with_reducible rfl)
                try simp only [Act.put, List.setIfInBounds_toArray, List.set_cons_zero, List.set_cons_succ]
                refine wpB_bar (Kp [gs] wr) 999 _ rfl (by kernel_rfl) rfl (fun K hK_ => ?_)
                go_simp
                refine hK_.out _ _ (by exact (hHeld.weaken (fun _ _ h => by cases h)).setCell (.inl (by simp)) _) (fun hHeld => ?_)
                clear hK_ K
                try simp only [Act.put, List.setIfInBounds_toArray, List.set_cons_zero, List.set_cons_succ]
                refine wpB_done (by kernel_rfl) ?_ _
                have hKx : Kp [gs] we ((wr.setCell ⟨gs, n, none⟩ (.int .u32 (IntKind.u32.wrap (x + y)))).drew) := hKs.trans hHeld
                clear hHeld ps pf pv
                go_wp2_with fail
                go_roundg g'
                case rel => exact ⟨n + 1, by have := HN.out; omega, by go_num, hKx, HSET.out⟩
                case measure => omega
              · obtain rfl : n = 8 := by omega
                obtain rfl : gk = 0 := by omega
                clear hn
                have hlf := addL_len hs hVl 8 (Nat.le_refl _)
                obtain ⟨F, hF⟩ : ∃ F, F = addL s V 8 := ⟨_, rfl⟩
                have hBF : blockF b s = F := by unfold blockF; rw [hVR, hF]
                rw [← hF] at hSs hlf
                have brS := (hKs.block gr (lt_of_block brR) (by simp only [List.mem_singleton]; omega)).trans brR
                have hsF : (Tryd.prog.info? 107).map (·.size) = some (uV F).size := by rw [uV_len, hlf]; exact size8
                have HBF := Lib.hid hBF
                have HLF := Lib.hid hlf
                have HSF := Lib.hid hsF
                clear hF hBF hlf hsF
                go_wp2_with (first
                  | (refine wpList_load_row rfl 107 (.tmp 2) rfl gs rfl 107 (uV F) (0, 0) _ hSs under8 rfl HSF.out ?_)
                  | (refine wpList_store_row rfl 107 (.tmp 4) (.tmp 164) rfl gr (uV F) rfl rfl 107 _ brS HSF.out (by rw [uV_len, uV_len, HLF.out]; rfl) (uV_one _) ?_))
                have hz := setRow_heap wr gr _ (uV F) _ _ brS
                have hKF : Kp [] w (wr.setRow gr (uV F)) := by
                  have e0 := hdis
                  have k1 : Kp [] w wd := kabc.step hKwc (fun i hi hm => by rw [List.mem_singleton] at hm; omega)
                  have k2 : Kp [] w we := k1.step hKr (fun i hi hm => by
                    rw [List.mem_singleton] at hm
                    have := lt_of_block bsW
                    omega)
                  have k3 : Kp [] w wr := k2.step hKs (fun i hi hm => by rw [List.mem_singleton] at hm; omega)
                  exact k3.setRow (.inr (by omega)) _
                exact bodyPost_ret (results_cell_row rfl _ _ gr 107 (uV F) (0, 0) _ (by kernel_rfl) hz under8 rfl HSF.out) rfl ⟨by rw [HBF.out], by rw [HBF.out]; exact HLF.out, hKF⟩
end Go.Proofs.YtlomniffpjndfaaDoor
