/-
  A digest: Sum.
-/
import Derived.Test.YtlomniffpjndfaaDoorMdU
import Derived.Test.YtlomniffpjndfaaDoorMdW
namespace Go.Proofs.YtlomniffpjndfaaDoor
open Go.RowKit Go.WideShapes

/-- byte i of the size in bits -/
def szByte (n : Int) (i : Int) : Int := n * 8 / 2 ^ (8 * i).toNat % 256
def szB (n : Int) (i : Int) : UInt8 := UInt8.ofNat (szByte n i).toNat
theorem szB_val (n i : Int) : ((szB n i).toNat : Int) = szByte n i := by
  have h0 : 0 ≤ szByte n i ∧ szByte n i < 256 := by
    unfold szByte
    omega
  unfold szB
  rw [UInt8.toNat_ofNat']
  omega
/-- noughts that fill up -/
def zeros (L : Nat) : Nat := (120 - L % 64) % 64
/-- the last bytes of the size, of which j are there -/
def szList (n : Int) : Nat → List UInt8
  | 0 => []
  | j + 1 => szList n j ++ [szB n (7 - (j : Int))]
theorem szList_len (n : Int) : ∀ j, (szList n j).length = j
  | 0 => rfl
  | j + 1 => by simp [szList, szList_len n j]
/-- what is left of a text, filled up -/
def tailB (m : ByteArray) : List UInt8 :=
  let r := (m.extract (64 * (m.size / 64)) m.size).data.toList ++ [128]
  (r ++ List.replicate (zeros r.length) 0) ++ szList m.size 8
def chunkL (l : List UInt8) (i : Nat) : ByteArray := ⟨((l.drop (64 * i)).take 64).toArray⟩
def stL (l : List UInt8) (s : List Int) : Nat → List Int
  | 0 => s
  | n + 1 => blockF (chunkL l n) (stL l s n)
def w4 (x : Int) : List UInt8 := [UInt8.ofNat (x / 16777216 % 256).toNat, UInt8.ofNat (x / 65536 % 256).toNat, UInt8.ofNat (x / 256 % 256).toNat, UInt8.ofNat (x % 256).toNat]
/-- the digest -/
def sumF (m : ByteArray) : ByteArray := ⟨((stL (tailB m) (stN m (m.size / 64)) ((tailB m).length / 64)).flatMap w4).toArray⟩
theorem mrow_conv (w : World) (s : ByteArray) (cap : Nat) (hc : s.size ≤ cap) (t : World) (ht : t = w.drew.alloc (.cells (bytesRow s cap) 5 ((bytesRow s cap).size, (bytesRow s cap).size + 1))) : MRow t w.heap.size (.slice (some ⟨w.heap.size, 0, none⟩) s.size cap) s.data.toList := by
  have hz : (bytesRow s cap).size = cap := by
    unfold bytesRow
    rw [Array.size_append, Array.size_map, Array.size_replicate]
    show s.size + (cap - s.size) = cap
    omega
  refine ⟨w.heap.size, cap, bytesRow s cap, ((bytesRow s cap).size, (bytesRow s cap).size + 1), by simp, Nat.le_refl _, by rw [ht]; exact block_new _ _, by rw [hz]; exact Nat.le_refl _, by simpa using hc, fun j hj => by simp only; omega, fun j hj => ?_⟩
  have hj' : j < s.data.size := by simpa using hj
  rw [bytesRow_at s cap j hj']
  simp
theorem zeros_lt (L k : Nat) (h : k < zeros L) : ¬ (L + k) % 64 = 56 := by unfold zeros at h; omega
theorem zeros_eq (L : Nat) : (L + zeros L) % 64 = 56 := by unfold zeros; omega
theorem bv_mod (y : Int) : BV (UInt8.ofNat (y % 256).toNat) = Value.int .u8 (y % 256) := by
  have : ((UInt8.ofNat (y % 256).toNat).toNat : Int) = y % 256 := by rw [UInt8.toNat_ofNat']; omega
  show Value.int .u8 _ = _
  rw [this]
set_option maxRecDepth 20000 in
theorem idx8 (F : List Int) (hF : F.length = 8) (n : Nat) (h : n < 8) (W : World) : (Instr.index 107 (.agg (uV F)) (.int .i64 (n : Int))).run Tryd.prog W = .ok (.int .u32 (F.getD n 0)) W := by
  have hn : F[n]? = some (F.getD n 0) := by rw [List.getD_eq_getElem?_getD, List.getElem?_eq_getElem (by omega)]; rfl
  have hu : (uV F)[n]? = some (.int .u32 (F.getD n 0)) := by unfold uV; rw [List.getElem?_toArray, List.getElem?_map, hn]; rfl
  have h0 : (0 : Int) ≤ (n : Int) ∧ (n : Int) < 8 := by omega
  have hz : (sizeOf 82).run Tryd.prog W = .ok 1 W := Tryd.sizeOf82 W
  have ha : (isAgg 82).run Tryd.prog W = .ok false W := Tryd.isAgg82 W
  simp [Instr.index, asIntOf, Sem.run_bind, run_underlying under8, Result.andThen, h0, hz, Go.part, ha, hu]
  exact fun h' => absurd h' (by omega)
theorem byteCells_snoc (l : List UInt8) (b : UInt8) : Lib.byteCells (l ++ [b]) = Lib.byteCells l ++ [BV b] := by simp [Lib.byteCells]
set_option maxHeartbeats 4000000 in
set_option maxRecDepth 20000 in
theorem dsum1 (s : ByteArray) (hs : s.size ≤ 1000) (g : Nat) (w : World) (hl0 : (stN s (s.size / 64)).length = 8) (h : DAt w g (stN s (s.size / 64)) (s.extract (64 * (s.size / 64)) s.size) s.size) : Calls Tryd.prog 61 #[.pointer (some ⟨g, 0, none⟩)] w fun e w' => e = .returned (.string (sumF s)) ∧ Kp [] w w' := by
  obtain ⟨i0, hi, hz0, hz1, hz2⟩ := info_parts Tryd.info5
  obtain ⟨r, hr⟩ : ∃ r, r = s.extract (64 * (s.size / 64)) s.size := ⟨_, rfl⟩
  have hrz : r.size < 64 := by rw [hr, ByteArray.size_extract]; omega
  obtain ⟨S, hS⟩ : ∃ S, S = stN s (s.size / 64) := ⟨_, rfl⟩
  rw [← hr, ← hS] at h
  rw [← hS] at hl0
  obtain ⟨q8, q9, hrg, hth⟩ := dat_cell h hl0
  have hgl := lt_of_block h
  have HR := Lib.hid hr
  have HS := Lib.hid hS
  have h128 : (⟨#[128]⟩ : ByteArray).size = 1 := rfl
  clear hr hS
  obtain ⟨L0, hL0⟩ : ∃ L0, L0 = r.data.toList ++ [128] := ⟨_, rfl⟩
  have hrd : (r ++ (⟨#[128]⟩ : ByteArray)).data.toList = L0 := by rw [hL0]; simp [ByteArray.data_append]
  have hrs : (r ++ (⟨#[128]⟩ : ByteArray)).size = L0.length := by rw [← hrd, Array.length_toList]; rfl
  have hL0z : L0.length ≤ 64 := by rw [← hrs, ByteArray.size_append]; show r.size + 1 ≤ 64; omega
  have hcp := grownCap_ge w (r ++ (⟨#[128]⟩ : ByteArray)).size 0 5
  obtain ⟨cap, hcap⟩ : ∃ cap, cap = grownCap w (r ++ (⟨#[128]⟩ : ByteArray)).size 0 5 := ⟨_, rfl⟩
  rw [← hcap] at hcp
  obtain ⟨w1, hw1⟩ : ∃ w1, w1 = w.drew.alloc (.cells (bytesRow (r ++ (⟨#[128]⟩ : ByteArray)) cap) 5 ((bytesRow (r ++ (⟨#[128]⟩ : ByteArray)) cap).size, (bytesRow (r ++ (⟨#[128]⟩ : ByteArray)) cap).size + 1)) := ⟨_, rfl⟩
  have hm1 := mrow_conv w (r ++ (⟨#[128]⟩ : ByteArray)) cap hcp w1 hw1
  rw [hrd] at hm1
  have k1 : Kp [] w w1 := by rw [hw1]; exact ((Kp.refl _ _).drew).alloc _
  have hcv : (convert 9 60 (.string (r ++ (⟨#[128]⟩ : ByteArray)))).run Tryd.prog w = .ok (.slice (some ⟨w.heap.size, 0, none⟩) L0.length cap) w1 := by
    rw [run_bytes_of_string _ _ _ _ _ Tryd.underlying9 Tryd.underlying60 Tryd.underlying5, ← hcap, ← hw1, hrs]
  rw [hrs] at hm1
  have HL0 := Lib.hid hL0
  clear hL0 hrd hrs hcp hcap hw1
  go_enter Tryd.func61, Tryd.ntmps61
  go_wp2_with fail
  go_loopg [3] (zeros L0.length) (fun g' o wr => ∃ (k : Nat) (v : Value), k + g' = zeros L0.length ∧ o = v ∧ Kp [] w wr ∧ MRow wr w.heap.size v (L0 ++ List.replicate k 0))
  case atStart => exact ⟨0, _, by omega, rfl, k1, by simpa using hm1⟩
  case round =>
    clear k1 hm1 hcv
    obtain ⟨k, v, hk, rfl, hK, hM⟩ := hrel
    have HK := Lib.hid hk
    obtain ⟨va, vc, rfl⟩ := hM.ex
    have hlen : (L0 ++ List.replicate k 0).length = L0.length + k := by rw [List.length_append, List.length_replicate]
    obtain ⟨n, hn⟩ : ∃ n, n = L0.length + k := ⟨_, rfl⟩
    rw [hlen, ← hn] at hM ⊢
    have hnz : n ≤ 128 := by
      have : zeros L0.length < 64 := by unfold zeros; omega
      omega
    have HNN := Lib.hid hn
    by_cases hlt : k < zeros L0.length
    · obtain ⟨g', rfl⟩ : ∃ g', gk = g' + 1 := ⟨gk - 1, by omega⟩
      have hmod : ¬ (n : Int) % 64 = 56 := by
        have := zeros_lt L0.length k hlt
        omega
      have hml : (L0 ++ List.replicate k 0 ++ [0] : List UInt8) = L0 ++ List.replicate (k + 1) 0 := by
        rw [List.append_assoc, List.replicate_succ']
      obtain ⟨Lk, hLk⟩ : ∃ Lk, Lk = L0 ++ List.replicate k (0 : UInt8) := ⟨_, rfl⟩
      have hLkl : Lk.length = n := by rw [hLk, hlen, hn]
      rw [← hLk] at hM hml
      have HML := Lib.hid hml
      have HLK := Lib.hid hLkl
      clear hk hn hlen hLk hml
      have hBs : w.heap.size ≤ wr.heap.size := hK.size
      have hge := hM.block_ge
      go_wp2_with (first | (at_builtin; refine wpList_mrow _ rfl (.tmp 21) (.tmp 22) rfl w.heap.size (.slice va n vc) Lk rfl (hM.keep0 ((Kp.refl _ _).alloc _)) ⟨wr.heap.size, 0, none⟩ 0 rfl (cell_of_cells (block_new _ _) rfl) (by omega) (by rw [World.size_alloc]; omega) ?_))
      intro v' w4 hM4 hk4
      have hK4 : Kp [] w w4 := (hK.trans ((Kp.refl [] wr).alloc _)).step hk4 (fun i hi hm => by
        rw [Option.mem_toList] at hm
        have := hge i hm
        omega)
      obtain ⟨v4, c4, rfl⟩ := hM4.ex
      rw [HML.out] at hM4
      have HM4 := Lib.hid hM4
      clear hM4 hk4 hM hge
      go_wp2_with fail
      go_roundg g'
      case rel => exact ⟨k + 1, _, by have := HK.out; omega, rfl, hK4, by rw [HML.out]; exact HM4.out⟩
      case measure => omega
    · obtain rfl : k = zeros L0.length := by omega
      obtain rfl : gk = 0 := by omega
      have hmod : (n : Int) % 64 = 56 := by
        have := zeros_eq L0.length
        omega
      obtain ⟨L1, hL1⟩ : ∃ L1, L1 = L0 ++ List.replicate (zeros L0.length) (0 : UInt8) := ⟨_, rfl⟩
      have hL1n : L1.length = n := by rw [hL1, hlen, hn]
      rw [← hL1] at hM
      have HL1 := Lib.hid hL1
      have HLN := Lib.hid hL1n
      have hKr := Kp.refl [] wr
      have hM0 : MRow wr w.heap.size (.slice va n vc) (L1 ++ szList s.size 0) := by simpa [szList] using hM
      have q9r := Kp.cellAt (X := []) q9 (by simp)
      clear hk hn hlen hL1 hL1n hM
      go_wp2_with fail
      have HMOD := Lib.hid hmod
      clear hmod
      go_loopg [3, 4] 8 (fun g' o i wr2 => ∃ (j : Nat) (v : Value), j + g' = 8 ∧ i = .int .i64 (7 - (j : Int)) ∧ o = v ∧ Kp [] w wr2 ∧ MRow wr2 w.heap.size v (L1 ++ szList s.size j))
      case atStart => exact ⟨0, _, rfl, rfl, rfl, hK, hM0⟩
      case round =>
        clear hM0 hKr hK
        obtain ⟨j, v, hj, rfl, rfl, hK, hM⟩ := hrel
        have HJ := Lib.hid hj
        obtain ⟨va, vc, rfl⟩ := hM.ex
        have hlen : (L1 ++ szList s.size j).length = n + j := by rw [List.length_append, szList_len, HLN.out]
        rw [hlen] at hM ⊢
        by_cases hlt : j < 8
        · obtain ⟨g', rfl⟩ : ∃ g', gk = g' + 1 := ⟨gk - 1, by omega⟩
          have h0 : (0 : Int) ≤ 7 - (j : Int) := by omega
          obtain ⟨i, hi'⟩ : ∃ i : Int, i = 7 - (j : Int) := ⟨_, rfl⟩
          have hi0 : (0 : Int) ≤ i := by omega
          have hi7 : i ≤ 7 := by omega
          have hw8 := wrap_id (8 * i) (by omega) (by omega)
          have hn8 : ¬ 8 * i < 0 := by omega
          rw [← hi'] at h0 ⊢
          have hcd := q9r wr hK
          have HI := Lib.hid hi'
          have HLEN := Lib.hid hlen
          have hBs : w.heap.size ≤ wr.heap.size := hK.size
          have hge := hM.block_ge
          have hnz2 : n + j ≤ 200 := by omega
          have hml : L1 ++ szList s.size j ++ [szB s.size i] = L1 ++ szList s.size (j + 1) := by rw [List.append_assoc, HI.out]; rfl
          obtain ⟨Lj, hLj⟩ : ∃ Lj, Lj = L1 ++ szList s.size j := ⟨_, rfl⟩
          have hLjl : Lj.length = n + j := by rw [hLj]; exact HLEN.out
          rw [← hLj] at hM hml
          have HML := Lib.hid hml
          have HLJ := Lib.hid hLjl
          have hbv : BV (szB s.size i) = Value.int .u8 ((s.size : Int) * 8 / 2 ^ (8 * i).toNat % 256) := congrArg _ (szB_val _ _)
          have HBV := Lib.hid hbv
          obtain ⟨nj, hnj⟩ : ∃ nj, nj = n + j := ⟨_, rfl⟩
          rw [← hnj] at hM hnz2 HLJ hge ⊢
          have HNJ := Lib.hid hnj
          clear hi' hj hlen hLj hml hLjl hbv hnj
          go_wp2_with (first | (at_builtin; refine wpList_mrow _ rfl (.tmp 28) (.tmp 39) rfl w.heap.size (.slice va nj vc) Lj rfl (hM.keep0 ((Kp.refl _ _).alloc _)) ⟨wr.heap.size, 0, none⟩ (szB s.size i) rfl (by rw [HBV.out]; exact cell_of_cells (block_new _ _) rfl) (by rw [HLJ.out]; omega) (by rw [World.size_alloc]; omega) ?_))
          intro v' w4 hM4 hk4
          have hK4 : Kp [] w w4 := (hK.trans ((Kp.refl [] wr).alloc _)).step hk4 (fun i hi hm => by
            rw [Option.mem_toList] at hm
            have := hge i hm
            omega)
          obtain ⟨v4, c4, rfl⟩ := hM4.ex
          rw [HML.out] at hM4
          have HM4 := Lib.hid hM4
          clear hM4 hk4 hM hge hcd
          go_wp2_with fail
          go_roundg g'
          case rel => exact ⟨j + 1, _, by have := HJ.out; omega, by have := HI.out; congr 1; omega, rfl, hK4, by rw [HML.out]; exact HM4.out⟩
          case measure => omega
        · obtain rfl : j = 8 := by omega
          obtain rfl : gk = 0 := by omega
          have hT : L1 ++ szList s.size 8 = tailB s := by
            unfold tailB
            rw [HL1.out, HL0.out, ← HR.out]
          rw [hT] at hM hlen
          obtain ⟨T, hTT⟩ : ∃ T, T = tailB s := ⟨_, rfl⟩
          have hTl : T.length = n + 8 := by rw [hTT]; exact hlen
          have hT64 : T.length % 64 = 0 := by have := HMOD.out; omega
          obtain ⟨m, hm⟩ : ∃ m, m = n + 8 := ⟨_, rfl⟩
          rw [← hTT] at hM
          rw [← hm] at hM hTl ⊢
          have hm128 : m ≤ 256 := by omega
          have hgr := Kp.cellAt (X := []) q9 (by simp)
          have hDr : DAt wr g S r s.size := h.keep0 hK
          obtain ⟨-, -, hrgr, -⟩ := dat_cell hDr hl0
          have hmS : (Tryd.prog.info? 107).map (·.size) = some (S.map (Value.int .u32)).length := by rw [List.length_map, hl0]; exact size8
          have hmU : (Tryd.prog.info? 107).map (·.size) = some (uV S).size := by rw [uV_len, hl0]; exact size8
          have HTT := Lib.hid hTT
          have HTL := Lib.hid hTl
          have H64 := Lib.hid hT64
          have HMS := Lib.hid hmS
          have HMU := Lib.hid hmU
          have hlow : ¬ (0 : Int) ≤ 7 - ((8 : Nat) : Int) := by omega
          clear hj hT hTT hTl hT64 hm hlen hgr hmS hmU
          go_wp2_with (first
            | (refine wpList_load_mid rfl 107 (.tmp 43) rfl g 0 rfl (S.map (Value.int .u32)) _ hrgr under8 rfl HMS.out ?_)
            | (refine wpList_store_row rfl 107 (.tmp 5) (.tmp 44) rfl wr.heap.size (uV S) rfl rfl 107 _ (block_new _ _) HMU.out (by rw [uV_len, hl0]; rfl) (uV_one _) ?_; rw [World.setRow_alloc_new]))
          obtain ⟨gb, capb, cur, z, hvs, hgb, hcur, hcc, hlc, hfz, hat⟩ := hM
          simp only [Value.slice.injEq] at hvs
          obtain ⟨rfl, -, rfl⟩ := hvs
          obtain ⟨g5, hg5⟩ : ∃ g5, g5 = wr.heap.size := ⟨_, rfl⟩
          obtain ⟨wX, hwX⟩ : ∃ wX, wX = wr.alloc (.cells (uV S) 107) := ⟨_, rfl⟩
          have kX : Kp [] wr wX := hwX ▸ (Kp.refl _ _).alloc _
          have b5 : wX.heap[g5]? = some (.cells (uV (stL T S 0)) 107 (0, 0)) := by rw [hwX, hg5]; exact block_new _ _
          have hbX : ∀ j (hj : j < T.length), wX.cell? ⟨gb, j, none⟩ = some (BV T[j]) := fun j hj => cell_of_cells ((kX.block gb (lt_of_block hcur) (by simp)).trans hcur) (hat j hj)
          have hgne : gb ≠ g5 := by have := lt_of_block hcur; omega
          have hKX : Kp [] w wX := hK.trans kX
          have hw5 : w.heap.size ≤ g5 := by have := hK.size; omega
          rw [← hwX, ← hg5]
          have hKs := Kp.refl [g5] wX
          have hmc : m ≤ vc := by rw [HTL.out] at hlc; exact hlc
          have HWX := Lib.hid hwX
          clear hwX hg5 hcur hcc hlc hfz hat kX hrgr hDr
          go_loopg [3] (m / 64) (fun g' o wr3 => ∃ (q : Nat) (a : Option Addr) (c : Nat), q + g' = m / 64 ∧ o = .slice a (m - 64 * q) c ∧ (q < m / 64 → a = some ⟨gb, 64 * q, none⟩ ∧ c = vc - 64 * q) ∧ Kp [g5] wX wr3 ∧ wr3.heap[g5]? = some (.cells (uV (stL T S q)) 107 (0, 0)) ∧ (stL T S q).length = 8)
          case atStart => exact ⟨0, _, _, by omega, rfl, fun _ => ⟨rfl, rfl⟩, hKs, b5, hl0⟩
          case round =>
            clear hKs b5
            obtain ⟨q, a, c, hq, rfl, hac, hKs, hb5, hl5⟩ := hrel
            have HQ := Lib.hid hq
            by_cases hlt : q < m / 64
            · obtain ⟨g', rfl⟩ : ∃ g', gk = g' + 1 := ⟨gk - 1, by omega⟩
              obtain ⟨rfl, rfl⟩ := hac hlt
              have hle : 64 * q + 64 ≤ m := by omega
              obtain ⟨e, he⟩ : ∃ e, e = m - 64 * q := ⟨_, rfl⟩
              obtain ⟨cc, hcc⟩ : ∃ cc, cc = vc - 64 * q := ⟨_, rfl⟩
              have he64 : 64 ≤ e := by omega
              have hec : e ≤ cc := by omega
              have heI : (64 : Int) ≤ (e : Int) := by omega
              have hccI : (64 : Int) ≤ (cc : Int) := by omega
              have hecI : (e : Int) ≤ (cc : Int) := by omega
              have h64c : 64 ≤ cc := by omega
              rw [← he, ← hcc]
              have hcl : (chunkL T q).size = 64 := by
                unfold chunkL
                show ((T.drop (64 * q)).take 64).toArray.size = 64
                rw [List.size_toArray, List.length_take, List.length_drop, HTL.out]
                omega
              have hcv : ∀ W, Kp [g5] wr W → (convert 60 9 (.slice (some ⟨gb, 64 * q, none⟩) 64 cc)).run Tryd.prog W = .ok (.string (chunkL T q)) W := fun W k => by
                have hl64 : ((T.drop (64 * q)).take 64).length = 64 := by rw [List.length_take, List.length_drop, HTL.out]; omega
                have := run_convert_bytes_back (P := Tryd.prog) W 60 9 5 ⟨gb, 64 * q, none⟩ cc ((T.drop (64 * q)).take 64) Tryd.underlying60 Tryd.underlying5 Tryd.underlying9 (fun j hj => by
                  rw [hl64] at hj
                  have hjT : 64 * q + j < T.length := by rw [HTL.out]; omega
                  rw [Addr.add_mid]
                  have hx := (k.cell (lt_of_cell ((hKs.cell (lt_of_cell (hbX (64 * q + j) hjT)) (by simpa using hgne)).trans (hbX (64 * q + j) hjT))) (by simpa using hgne)).trans ((hKs.cell (lt_of_cell (hbX (64 * q + j) hjT)) (by simpa using hgne)).trans (hbX (64 * q + j) hjT))
                  rw [hx]
                  simp)
                rw [hl64] at this
                exact this
              obtain ⟨st, hst⟩ : ∃ st, st = stL T S q := ⟨_, rfl⟩
              rw [← hst] at hb5 hl5
              have hdb := fun W => dblock st hl5 (chunkL T q) hcl W
              have hb5W : ∀ W, Kp [] wr W → W.heap[g5]? = some (.cells (uV st) 107 (0, 0)) := fun W k => (k.block g5 (lt_of_block hb5) (by simp)).trans hb5
              have hsz5 : (Tryd.prog.info? 107).map (·.size) = some (uV st).size := by rw [uV_len, hl5]; exact size8
              have HST := Lib.hid hst
              have HB5 := Lib.hid hb5W
              have HSZ := Lib.hid hsz5
              have HE := Lib.hid he
              have HCC := Lib.hid hcc
              clear hq hac he hcc hcl hst hb5W hsz5
              go_wp2_with fail
              refine wpB_begin 999 (Kp [g5] wr) (by kernel_rfl) (by exact (Kp.refl _ _).drew) (fun hHeld => ?_)
              refine wpB_take 1 _ ?_ rfl (by kernel_rfl) (fun _ _ _ h => h) rfl hHeld ?_ ?_
              rotate_left
              · (intro W hW; go_simp; try with_reducible rfl)
              try simp only [Act.put, List.setIfInBounds_toArray, List.set_cons_zero, List.set_cons_succ]
              refine wpB_take 2 _ ?_ rfl (by kernel_rfl) (fun _ _ _ h => h) rfl hHeld ?_ ?_
              rotate_left
              · (intro W hW; go_simp; try with_reducible rfl)
              try simp only [Act.put, List.setIfInBounds_toArray, List.set_cons_zero, List.set_cons_succ]
              refine wpB_take 3 _ ?_ rfl (by kernel_rfl) (fun _ _ _ h => h) rfl hHeld ?_ ?_
              rotate_left
              · (intro W hW; go_simp; try with_reducible rfl)
              try simp only [Act.put, List.setIfInBounds_toArray, List.set_cons_zero, List.set_cons_succ]
              refine wpB_take 5 _ ?_ rfl (by kernel_rfl) (fun _ _ _ h => h) rfl hHeld ?_ ?_
              rotate_left
              · (intro W hW; go_simp; try with_reducible rfl)
              try simp only [Act.put, List.setIfInBounds_toArray, List.set_cons_zero, List.set_cons_succ]
              refine wpB_take 6 _ ?_ rfl (by kernel_rfl) (fun _ _ _ h => h) rfl hHeld ?_ ?_
              rotate_left
              · (intro W hW; go_simp; try with_reducible rfl)
              try simp only [Act.put, List.setIfInBounds_toArray, List.set_cons_zero, List.set_cons_succ]
              refine wpB_step 0 _ rfl (by kernel_rfl) rfl rfl (fun K hK_ => ?_)
              refine wp_load_row 107 (.tmp 5) rfl g5 rfl 107 (uV st) (0, 0) _ (HB5.out _ (Kp.refl _ _).drew) under8 rfl HSZ.out ?_
              refine hK_.out _ _ (by exact hHeld) (fun hHeld => ?_)
              clear hK_ K
              try simp only [Act.put, List.setIfInBounds_toArray, List.set_cons_zero, List.set_cons_succ]
              refine wpB_step 4 _ rfl (by kernel_rfl) rfl rfl (fun K hK_ => ?_)
              go_simp
              refine (hdb _).mono ?_
              rintro e' wq ⟨rfl, hl2, kq⟩
              refine hK_.out _ _ (by exact hHeld.trans (kq.weaken (fun _ _ h => by cases h))) (fun hHeld => ?_)
              clear hK_ K
              try simp only [Act.put, List.setIfInBounds_toArray, List.set_cons_zero, List.set_cons_succ]
              refine wpB_step 7 _ rfl (by kernel_rfl) rfl rfl (fun K hK_ => ?_)
              have hb5q := HB5.out _ (((Kp.refl [] wr).drew).trans kq)
              refine wp_store_row_told 107 (.tmp 5) (.tmp 52) rfl g5 (uV (blockF (chunkL T q) st)) rfl rfl 107 (uV st) hb5q (by rw [uV_len, hl2]; exact size8) (by rw [uV_len, uV_len, hl2, hl5]) (uV_one _) (fun _ hb6 => ?_)
              refine hK_.out _ _ (by exact hHeld.setRow (.inl (by simp)) _) (fun hHeld => ?_)
              clear hK_ K
              try simp only [Act.put, List.setIfInBounds_toArray, List.set_cons_zero, List.set_cons_succ]
              refine wpB_take 8 _ ?_ rfl (by kernel_rfl) (fun _ _ _ h => h) rfl hHeld ?_ ?_
              rotate_left
              · (intro W hW; go_simp; try with_reducible rfl)
              try simp only [Act.put, List.setIfInBounds_toArray, List.set_cons_zero, List.set_cons_succ]
              refine wpB_done (by kernel_rfl) ?_ _
              have hKn := hKs.trans hHeld
              have hSn : stL T S (q + 1) = blockF (chunkL T q) st := by rw [HST.out]; rfl
              have HSN := Lib.hid hSn
              have HB6 := Lib.hid hb6
              have HL2 := Lib.hid hl2
              obtain ⟨aN, haN⟩ : ∃ aN : Option Addr, aN = if cc = 64 then some ⟨gb, 64 * q, none⟩ else some ⟨gb, 64 * q + 64, none⟩ := ⟨_, rfl⟩
              rw [← haN]
              have HAN := Lib.hid haN
              clear hSn hb6 hl2 haN hHeld hcv hdb hb5
              go_wp2_with fail
              go_roundg g'
              case rel => exact ⟨q + 1, aN, cc - 64, by have := HQ.out; omega, by have := HE.out; congr 1; omega, fun hlt2 => ⟨by
                have hne : ¬ cc = 64 := by have := HE.out; omega
                rw [HAN.out, if_neg hne]; congr 1, by have := HCC.out; omega⟩, hKn, by rw [HSN.out]; exact HB6.out, by rw [HSN.out]; exact HL2.out⟩
              case measure => omega
            · obtain rfl : q = m / 64 := by omega
              obtain rfl : gk = 0 := by omega
              have hm0 : m - 64 * (m / 64) = 0 := by
                have := H64.out
                rw [HTL.out] at this
                omega
              rw [hm0]
              obtain ⟨F, hF⟩ : ∃ F, F = stL T S (m / 64) := ⟨_, rfl⟩
              rw [← hF] at hb5 hl5
              have hfin : sumF s = ⟨(F.flatMap w4).toArray⟩ := by
                unfold sumF
                rw [← HTT.out, HTL.out, ← HS.out, ← hF]
              have hszF : (Tryd.prog.info? 107).map (·.size) = some (uV F).size := by rw [uV_len, hl5]; exact size8
              have hKwr : Kp [] w wr := hKX.step hKs (fun i hi hm => by rw [List.mem_singleton] at hm; omega)
              obtain ⟨wB, hwB⟩ : ∃ wB, wB = wr.alloc (.cells #[.pointer none, .slice none 0 0] 62) := ⟨_, rfl⟩
              have kB : Kp [] wr wB := hwB ▸ (Kp.refl _ _).alloc _
              obtain ⟨b, hb⟩ : ∃ b, b = wr.heap.size := ⟨_, rfl⟩
              have hbB : BldX (b + 1) wB b (.slice none 0 0) [] := ⟨⟨_, .inl rfl, by rw [hwB, hb]; exact block_new _ _⟩, World.ownsRow_nil _ _ _ _, Nat.lt_succ_self _⟩
              have hzB : wB.heap.size = b + 1 := by rw [hwB, World.size_alloc, hb]
              have hb5B : wB.heap[g5]? = some (.cells (uV F) 107 (0, 0)) := (kB.block g5 (lt_of_block hb5) (by simp)).trans hb5
              have hwb : w.heap.size ≤ b := by have := hKwr.size; omega
              have HFIN := Lib.hid hfin
              have HSZ := Lib.hid hszF
              have HWB := Lib.hid hwB
              have HB := Lib.hid hb
              have HZB := Lib.hid hzB
              clear hq hac hm0 hfin hszF hwB hb hzB hF
              have hKbb := Kp.refl [b] wB
              go_wp2_with (first | (refine wpList_load_row rfl 107 (.tmp 5) rfl g5 rfl 107 (uV F) (0, 0) _ (by rw [← HWB.out]; exact hb5B) under8 rfl HSZ.out ?_))
              rw [← HWB.out, ← HB.out]
              go_loopg [56] 8 (fun g' i wr4 => ∃ (n : Nat) (v : Value), n + g' = 8 ∧ i = .int .i64 n ∧ Kp [b] wB wr4 ∧ BldX (b + 1) wr4 b v ((F.take n).flatMap w4))
              case atStart => exact ⟨0, _, rfl, rfl, hKbb, hbB⟩
              case round =>
                clear hKbb hbB
                obtain ⟨n, v, hn, rfl, hKb, hBx⟩ := hrel
                have HN := Lib.hid hn
                by_cases hlt3 : n < 8
                · obtain ⟨g', rfl⟩ : ∃ g', gk = g' + 1 := ⟨gk - 1, by omega⟩
                  clear hn
                  have hltI : (n : Int) < 8 := by omega
                  have hnl : n < F.length := by omega
                  have hi8 := fun W => idx8 F hl5 n hlt3 W
                  obtain ⟨x, hx⟩ : ∃ x, x = F.getD n 0 := ⟨_, rfl⟩
                  rw [← hx] at hi8
                  have hxg : F[n]'hnl = x := by rw [hx, List.getD_eq_getElem?_getD, List.getElem?_eq_getElem hnl]; rfl
                  have hnx : (F.take (n + 1)).flatMap w4 = (F.take n).flatMap w4 ++ w4 x := by
                    rw [List.take_add_one, List.getElem?_eq_getElem hnl, List.flatMap_append, hxg]
                    simp
                  obtain ⟨P, hP⟩ : ∃ P, P = (F.take n).flatMap w4 := ⟨_, rfl⟩
                  have hPz : P.length ≤ 1000 := by
                    have h4 : ∀ l : List Int, (l.flatMap w4).length = 4 * l.length := fun l => by
                      induction l with
                      | nil => rfl
                      | cons a l ih => rw [List.flatMap_cons, List.length_append, ih, List.length_cons]; show 4 + _ = _; omega
                    rw [hP, h4, List.length_take]
                    omega
                  rw [← hP] at hBx hnx
                  have HNX := Lib.hid hnx
                  clear hP hnx hx hxg
                  go_wp2_with fail
                  obtain ⟨wZ, hwZ⟩ : ∃ wZ, wZ = wr.alloc (.cells #[.int .u8 (x / 16777216 % 256), .int .u8 (x / 65536 % 256), .int .u8 (x / 256 % 256), .int .u8 (x % 256)] 5) := ⟨_, rfl⟩
                  have kZ : Kp [] wr wZ := hwZ ▸ (Kp.refl _ _).alloc _
                  have bZ : wZ.heap[wr.heap.size]? = some (.cells #[.int .u8 (x / 16777216 % 256), .int .u8 (x / 65536 % 256), .int .u8 (x / 256 % 256), .int .u8 (x % 256)] 5 (0, 0)) := by rw [hwZ]; exact block_new _ _
                  rw [← hwZ]
                  have hBZ := hBx.keep kZ (by simp) (by simp)
                  have hlt5 := hBx.bld.lt
                  have hcZ : ∀ j (hj : j < (w4 x).length), wZ.cell? ⟨wr.heap.size, j, none⟩ = some (BV (w4 x)[j]) := fun j hj => by
                    match j, hj with
                    | 0, _ => exact (cell_of_cells bZ rfl).trans (congrArg some (bv_mod _).symm)
                    | 1, _ => exact (cell_of_cells bZ rfl).trans (congrArg some (bv_mod _).symm)
                    | 2, _ => exact (cell_of_cells bZ rfl).trans (congrArg some (bv_mod _).symm)
                    | 3, _ => exact (cell_of_cells bZ rfl).trans (congrArg some (bv_mod _).symm)
                    | j + 4, h => exact absurd h (by show ¬ (j + 4 < 4); omega)
                  refine (wwrite (b + 1) b v P wr.heap.size (w4 x) rfl wZ hBZ hcZ (by omega) (by omega) (by have := HZB.out; have := hKb.size; have := kZ.size; omega)).mono ?_
                  rintro e' w6 ⟨v6, rfl, hB6, k6⟩
                  have hK6 : Kp [b] wB w6 := (hKb.trans (kZ.weaken (fun _ _ h => by cases h))).step k6 (fun i hi hm => by
                    rcases List.mem_cons.1 hm with hm | hm
                    · rw [hm]; exact List.mem_singleton.2 rfl
                    · rw [Option.mem_toList] at hm
                      have := own_block_ge hBZ.own i hm
                      have := HZB.out
                      omega)
                  rw [← HNX.out] at hB6
                  have HB6 := Lib.hid hB6
                  clear hB6 hBZ hBx bZ hcZ k6 hwZ
                  go_wp2_with fail
                  go_roundg g'
                  case rel => exact ⟨n + 1, v6, by have := HN.out; omega, by go_num, hK6, HB6.out⟩
                  case measure => omega
                · obtain rfl : n = 8 := by omega
                  obtain rfl : gk = 0 := by omega
                  clear hn
                  rw [List.take_of_length_le (by omega)] at hBx
                  have hbs := hBx.bld.is
                  have hbl := hBx.bld.lt
                  go_wp2_with fail
                  refine (Tryd.Builder_String_any b b _ _ hbs (by omega)).mono ?_
                  rintro e' w6 ⟨rfl, k6⟩
                  go_wp2_with fail
                  go_ret
                  have hKw : Kp [] w wr := by
                    refine (hKwr.trans kB).step hKb (fun i hi hm => by rw [List.mem_singleton] at hm; omega)
                  exact ⟨by rw [HFIN.out]; rfl, hKw.down k6 hwb⟩
set_option maxHeartbeats 1000000 in
set_option maxRecDepth 20000 in
theorem dsum (s : ByteArray) (w : World) (hs : s.size ≤ 1000) : Calls Tryd.prog 45 #[.string s] w fun e w' => e = .returned (.string (sumF s)) ∧ Kp [] w w' := by
  go_enter Tryd.func45, Tryd.ntmps45
  go_wp2_with fail
  refine (dnew w).mono ?_
  rintro e w1 ⟨g, rfl, hD1, k1, hg⟩
  go_wp2_with fail
  refine (dadd s hs g w1 hD1).mono ?_
  rintro e w2 ⟨⟨v, rfl⟩, hl, hD2, k2⟩
  go_wp2_with fail
  refine (dsum1 s hs g w2 hl hD2).mono ?_
  rintro e w3 ⟨rfl, k3⟩
  go_wp2_with fail
  go_ret
  exact ⟨rfl, (k1.step k2 (fun i hi hm => by rw [List.mem_singleton] at hm; omega)).trans k3⟩
theorem rounds_len (b : ByteArray) {s : List Int} (hs : s.length = 8) : ∀ n, (rounds b s n).length = 8
  | 0 => hs
  | n + 1 => by
    obtain ⟨a1, a2, a3, a4, a5, a6, a7, a8, e⟩ := eight (rounds_len b hs n)
    rw [rounds, e]
    rfl
theorem blockF_len (b : ByteArray) {s : List Int} (hs : s.length = 8) : (blockF b s).length = 8 := addL_len hs (rounds_len b hs 64) 8 (Nat.le_refl _)
theorem stN_len (m : ByteArray) : ∀ n, (stN m n).length = 8
  | 0 => rfl
  | n + 1 => blockF_len _ (stN_len m n)
theorem stL_len (l : List UInt8) {s : List Int} (hs : s.length = 8) : ∀ n, (stL l s n).length = 8
  | 0 => hs
  | n + 1 => blockF_len _ (stL_len l hs n)
theorem w4_len : ∀ l : List Int, (l.flatMap w4).length = 4 * l.length
  | [] => rfl
  | a :: l => by rw [List.flatMap_cons, List.length_append, w4_len l, List.length_cons]; show 4 + _ = _; omega
theorem sum_ok : SumOk sumF :=
  ⟨fun s w hs => dsum s w hs, fun s => by
    show (List.toArray _).size ≤ 32
    rw [List.size_toArray, w4_len, stL_len _ (stN_len _ _)]
    exact Nat.le_refl _⟩
end Go.Proofs.YtlomniffpjndfaaDoor
