/-
  Records that came in.
-/
import Derived.Test.YtdhhddifmkijhaaGreatIdxH
import Derived.Test.YtdhhddifmkijhaaGreatRow
namespace Go.Proofs.YtdhhddifmkijhaaGreat
open Go.ChangeShapes Go.WideShapes Go.ChangeAt Go.RowKit Go.WideElems

instance : Inhabited RecD := ⟨⟨0, 0, zeroVol, zeroEnt, E0, 0, 0⟩⟩
/-- cells of a record, with its places' slice -/
def RecC (q : RecD × Value) : List Value := (RecV q.1 q.2).toList
theorem recC_len (q : RecD × Value) : (RecC q).length = 14 := rfl
theorem one_loc : Tryz.prog.cellsOf 88 = 2 := by kernel_rfl
theorem one_int : Tryz.prog.cellsOf 3 = 1 := by kernel_rfl
theorem one_str : Tryz.prog.cellsOf 9 = 1 := by kernel_rfl
theorem one_locs : Tryz.prog.cellsOf 34 = 1 := by kernel_rfl
theorem one_vol : Tryz.prog.cellsOf 36 = 4 := by kernel_rfl
theorem one_ent : Tryz.prog.cellsOf 38 = 5 := by kernel_rfl
theorem one_rec : Tryz.prog.cellsOf 40 = 14 := by kernel_rfl
set_option maxRecDepth 100000 in
theorem loc_of {W : World} {cs : List Value} (h : Rd Tryz.prog W 88 cs) : ∃ p : Int × Int, cs = locV p := by
  obtain ⟨hl, hf⟩ := rd_struct Tryz.underlying88 h
  rw [one_loc] at hl
  match cs, hl with
  | [a, b], _ =>
    have f0 : Rd Tryz.prog W 3 (([a, b].drop 0).take (Tryz.prog.cellsOf 3)) := hf 0 _ rfl
    have f1 : Rd Tryz.prog W 3 (([a, b].drop 1).take (Tryz.prog.cellsOf 3)) := hf 1 _ rfl
    rw [one_int] at f0 f1
    obtain ⟨n, e0, -⟩ := rd_int Tryz.underlying3 (show Rd Tryz.prog W 3 [a] from f0)
    obtain ⟨m, e1, -⟩ := rd_int Tryz.underlying3 (show Rd Tryz.prog W 3 [b] from f1)
    simp only [List.cons.injEq, and_true] at e0 e1
    subst e0 e1
    exact ⟨(n, m), rfl⟩
theorem locs_of {W : World} {cs : List Value} (h : Rd Tryz.prog W 34 cs) : ∃ (l : List (Int × Int)) (v : Value), cs = [v] ∧ LocsAt W.heap.size W v l := by
  obtain ⟨xs, v, e, hs, -⟩ := rd_list Tryz.underlying34 h locV 2 one_loc (by decide) (fun _ => rfl) (fun _ => True) (fun es he => by
    obtain ⟨p, e⟩ := loc_of he
    exact ⟨p, e, trivial⟩)
  exact ⟨xs, v, e, hs⟩
set_option maxRecDepth 100000 in
theorem vol_read {W : World} {cs : List Value} (h : Rd Tryz.prog W 36 cs) : ∃ (v : VolD) (lv : Value), cs = VolV v lv ∧ LocsAt W.heap.size W lv v.locs := by
  obtain ⟨hl, hf⟩ := rd_struct Tryz.underlying36 h
  rw [one_vol] at hl
  match cs, hl with
  | [c0, c1, c2, c3], _ =>
    have f0 : Rd Tryz.prog W 3 (([c0, c1, c2, c3].drop 0).take (Tryz.prog.cellsOf 3)) := hf 0 _ rfl
    rw [one_int] at f0
    change Rd Tryz.prog W 3 [c0] at f0
    have f1 : Rd Tryz.prog W 3 (([c0, c1, c2, c3].drop 1).take (Tryz.prog.cellsOf 3)) := hf 1 _ rfl
    rw [one_int] at f1
    change Rd Tryz.prog W 3 [c1] at f1
    have f2 : Rd Tryz.prog W 3 (([c0, c1, c2, c3].drop 2).take (Tryz.prog.cellsOf 3)) := hf 2 _ rfl
    rw [one_int] at f2
    change Rd Tryz.prog W 3 [c2] at f2
    have f3 : Rd Tryz.prog W 34 (([c0, c1, c2, c3].drop 3).take (Tryz.prog.cellsOf 34)) := hf 3 _ rfl
    rw [one_locs] at f3
    change Rd Tryz.prog W 34 [c3] at f3
    obtain ⟨d0, e0, n0⟩ := rd_int Tryz.underlying3 f0
    obtain ⟨d1, e1, n1⟩ := rd_int Tryz.underlying3 f1
    obtain ⟨d2, e2, n2⟩ := rd_int Tryz.underlying3 f2
    obtain ⟨d3, v3, e3, n3⟩ := locs_of f3
    simp only [List.cons.injEq, and_true] at e0 e1 e2 e3
    subst e0
    subst e1
    subst e2
    subst e3
    exact ⟨⟨d0, d1, d2, d3⟩, _, rfl, n3⟩
set_option maxRecDepth 100000 in
theorem ent_of {W : World} {cs : List Value} (h : Rd Tryz.prog W 38 cs) : ∃ e : EntD, cs = EntV e ∧ (e.key.size ≤ maxLen ∧ e.dig.size ≤ maxLen) := by
  obtain ⟨hl, hf⟩ := rd_struct Tryz.underlying38 h
  rw [one_ent] at hl
  match cs, hl with
  | [c0, c1, c2, c3, c4], _ =>
    have f0 : Rd Tryz.prog W 9 (([c0, c1, c2, c3, c4].drop 0).take (Tryz.prog.cellsOf 9)) := hf 0 _ rfl
    rw [one_str] at f0
    change Rd Tryz.prog W 9 [c0] at f0
    have f1 : Rd Tryz.prog W 3 (([c0, c1, c2, c3, c4].drop 1).take (Tryz.prog.cellsOf 3)) := hf 1 _ rfl
    rw [one_int] at f1
    change Rd Tryz.prog W 3 [c1] at f1
    have f2 : Rd Tryz.prog W 3 (([c0, c1, c2, c3, c4].drop 2).take (Tryz.prog.cellsOf 3)) := hf 2 _ rfl
    rw [one_int] at f2
    change Rd Tryz.prog W 3 [c2] at f2
    have f3 : Rd Tryz.prog W 3 (([c0, c1, c2, c3, c4].drop 3).take (Tryz.prog.cellsOf 3)) := hf 3 _ rfl
    rw [one_int] at f3
    change Rd Tryz.prog W 3 [c3] at f3
    have f4 : Rd Tryz.prog W 9 (([c0, c1, c2, c3, c4].drop 4).take (Tryz.prog.cellsOf 9)) := hf 4 _ rfl
    rw [one_str] at f4
    change Rd Tryz.prog W 9 [c4] at f4
    obtain ⟨d0, e0, n0⟩ := rd_string Tryz.underlying9 f0
    obtain ⟨d1, e1, n1⟩ := rd_int Tryz.underlying3 f1
    obtain ⟨d2, e2, n2⟩ := rd_int Tryz.underlying3 f2
    obtain ⟨d3, e3, n3⟩ := rd_int Tryz.underlying3 f3
    obtain ⟨d4, e4, n4⟩ := rd_string Tryz.underlying9 f4
    simp only [List.cons.injEq, and_true] at e0 e1 e2 e3 e4
    subst e0
    subst e1
    subst e2
    subst e3
    subst e4
    exact ⟨⟨d0, d1, d2, d3, d4⟩, rfl, n0, n4⟩
set_option maxHeartbeats 1000000 in
set_option maxRecDepth 100000 in
theorem rec_of {W : World} {cs : List Value} (h : Rd Tryz.prog W 40 cs) : ∃ q : RecD × Value, cs = RecC q ∧ LocsAt W.heap.size W q.2 q.1.vol.locs := by
  obtain ⟨hl, hf⟩ := rd_struct Tryz.underlying40 h
  rw [one_rec] at hl
  match cs, hl with
  | [c0, c1, c2, c3, c4, c5, c6, c7, c8, c9, c10, c11, c12, c13], _ =>
    have f0 : Rd Tryz.prog W 3 (([c0, c1, c2, c3, c4, c5, c6, c7, c8, c9, c10, c11, c12, c13].drop 0).take (Tryz.prog.cellsOf 3)) := hf 0 _ rfl
    rw [one_int] at f0
    change Rd Tryz.prog W 3 [c0] at f0
    have f1 : Rd Tryz.prog W 3 (([c0, c1, c2, c3, c4, c5, c6, c7, c8, c9, c10, c11, c12, c13].drop 1).take (Tryz.prog.cellsOf 3)) := hf 1 _ rfl
    rw [one_int] at f1
    change Rd Tryz.prog W 3 [c1] at f1
    have f2 : Rd Tryz.prog W 36 (([c0, c1, c2, c3, c4, c5, c6, c7, c8, c9, c10, c11, c12, c13].drop 2).take (Tryz.prog.cellsOf 36)) := hf 2 _ rfl
    rw [one_vol] at f2
    change Rd Tryz.prog W 36 [c2, c3, c4, c5] at f2
    have f3 : Rd Tryz.prog W 38 (([c0, c1, c2, c3, c4, c5, c6, c7, c8, c9, c10, c11, c12, c13].drop 6).take (Tryz.prog.cellsOf 38)) := hf 3 _ rfl
    rw [one_ent] at f3
    change Rd Tryz.prog W 38 [c6, c7, c8, c9, c10] at f3
    have f4 : Rd Tryz.prog W 9 (([c0, c1, c2, c3, c4, c5, c6, c7, c8, c9, c10, c11, c12, c13].drop 11).take (Tryz.prog.cellsOf 9)) := hf 4 _ rfl
    rw [one_str] at f4
    change Rd Tryz.prog W 9 [c11] at f4
    have f5 : Rd Tryz.prog W 3 (([c0, c1, c2, c3, c4, c5, c6, c7, c8, c9, c10, c11, c12, c13].drop 12).take (Tryz.prog.cellsOf 3)) := hf 5 _ rfl
    rw [one_int] at f5
    change Rd Tryz.prog W 3 [c12] at f5
    have f6 : Rd Tryz.prog W 3 (([c0, c1, c2, c3, c4, c5, c6, c7, c8, c9, c10, c11, c12, c13].drop 13).take (Tryz.prog.cellsOf 3)) := hf 6 _ rfl
    rw [one_int] at f6
    change Rd Tryz.prog W 3 [c13] at f6
    obtain ⟨d0, e0, n0⟩ := rd_int Tryz.underlying3 f0
    obtain ⟨d1, e1, n1⟩ := rd_int Tryz.underlying3 f1
    obtain ⟨d2, v2, e2, n2⟩ := vol_read f2
    simp only [VolV] at e2
    obtain ⟨d3, e3, n3⟩ := ent_of f3
    simp only [EntV] at e3
    obtain ⟨d4, e4, n4⟩ := rd_string Tryz.underlying9 f4
    obtain ⟨d5, e5, n5⟩ := rd_int Tryz.underlying3 f5
    obtain ⟨d6, e6, n6⟩ := rd_int Tryz.underlying3 f6
    simp only [List.cons.injEq, and_true] at e0 e1 e2 e3 e4 e5 e6
    subst e0
    subst e1
    obtain ⟨rfl, rfl, rfl, rfl⟩ := e2
    obtain ⟨rfl, rfl, rfl, rfl, rfl⟩ := e3
    subst e4
    subst e5
    subst e6
    exact ⟨(⟨d0, d1, d2, d3, d4, d5, d6⟩, _), rfl, n2⟩
/-- records that can be read -/
def RecsAt (B : Nat) (w : World) (v : Value) (rs : List (RecD × Value)) : Prop := SliceAt B w v 14 rs.length (rs.flatMap RecC) ∧ ∀ q ∈ rs, LocsAt B w q.2 q.1.vol.locs
theorem RecsAt.keep0 {B : Nat} {w w' : World} {v : Value} {rs : List (RecD × Value)} (h : RecsAt B w v rs) (k : Kp [] w w') : RecsAt B w' v rs := ⟨h.1.keep0 k, fun q hq => (h.2 q hq).keep0 k⟩
theorem recs_arg {W : World} {v : Value} (h : Rd Tryz.prog W 22 v.cells.toList) {av : Option Addr} {l c : Nat} (hv : v = .slice av l c) : ∃ rs : List (RecD × Value), RecsAt W.heap.size W v rs := by
  subst hv
  obtain ⟨xs, v, e, hs, hq⟩ := rd_list Tryz.underlying22 h RecC 14 one_rec (by decide) recC_len (fun q => LocsAt W.heap.size W q.2 q.1.vol.locs) (fun es he => by
    obtain ⟨q, e, hq⟩ := rec_of he
    exact ⟨q, e, hq⟩)
  have e1 : Value.slice av l c = v := by
    have : [Value.slice av l c] = [v] := e
    simpa using this
  subst e1
  exact ⟨xs, hs, hq⟩
/-- the cells of record i -/
theorem rec_at {B : Nat} {w : World} {v : Value} {rs : List (RecD × Value)} (h : RecsAt B w v rs) (i : Nat) (hi : i < rs.length) : ∃ g o c, v = .slice (some ⟨g, o, none⟩) rs.length c ∧ w.cell? ⟨g, o + i * 14, none⟩ = some (.int .i64 rs[i].1.seq) ∧ w.cell? ⟨g, o + i * 14 + 1, none⟩ = some (.int .i64 rs[i].1.kind) ∧ w.cell? ⟨g, o + i * 14 + 2, none⟩ = some (.int .i64 rs[i].1.vol.id) ∧ w.cell? ⟨g, o + i * 14 + 3, none⟩ = some (.int .i64 rs[i].1.vol.gen) ∧ w.cell? ⟨g, o + i * 14 + 4, none⟩ = some (.int .i64 rs[i].1.vol.len) ∧ w.cell? ⟨g, o + i * 14 + 5, none⟩ = some (rs[i].2) ∧ w.cell? ⟨g, o + i * 14 + 6, none⟩ = some (.string rs[i].1.ent.key) ∧ w.cell? ⟨g, o + i * 14 + 7, none⟩ = some (.int .i64 rs[i].1.ent.vol) ∧ w.cell? ⟨g, o + i * 14 + 8, none⟩ = some (.int .i64 rs[i].1.ent.off) ∧ w.cell? ⟨g, o + i * 14 + 9, none⟩ = some (.int .i64 rs[i].1.ent.len) ∧ w.cell? ⟨g, o + i * 14 + 10, none⟩ = some (.string rs[i].1.ent.dig) ∧ w.cell? ⟨g, o + i * 14 + 11, none⟩ = some (.string rs[i].1.key) ∧ w.cell? ⟨g, o + i * 14 + 12, none⟩ = some (.int .i64 rs[i].1.frm) ∧ w.cell? ⟨g, o + i * 14 + 13, none⟩ = some (.int .i64 rs[i].1.to) := by
  obtain ⟨av, cap, rfl⟩ := slice_ex h.1
  obtain ⟨g, o, rfl, hc, -, hb, hcell⟩ := h.1.cells (by omega)
  have hp := fun r hr => flat_at RecC 14 recC_len rs i r hi hr
  refine ⟨g, o, cap, rfl, hcell (i * 14 + 0) _ (hp 0 (by decide)), ?_, ?_, ?_, ?_, ?_, ?_, ?_, ?_, ?_, ?_, ?_, ?_, ?_⟩
  all_goals rw [Nat.add_assoc]
  · exact hcell (i * 14 + 1) _ (hp 1 (by decide))
  · exact hcell (i * 14 + 2) _ (hp 2 (by decide))
  · exact hcell (i * 14 + 3) _ (hp 3 (by decide))
  · exact hcell (i * 14 + 4) _ (hp 4 (by decide))
  · exact hcell (i * 14 + 5) _ (hp 5 (by decide))
  · exact hcell (i * 14 + 6) _ (hp 6 (by decide))
  · exact hcell (i * 14 + 7) _ (hp 7 (by decide))
  · exact hcell (i * 14 + 8) _ (hp 8 (by decide))
  · exact hcell (i * 14 + 9) _ (hp 9 (by decide))
  · exact hcell (i * 14 + 10) _ (hp 10 (by decide))
  · exact hcell (i * 14 + 11) _ (hp 11 (by decide))
  · exact hcell (i * 14 + 12) _ (hp 12 (by decide))
  · exact hcell (i * 14 + 13) _ (hp 13 (by decide))
end Go.Proofs.YtdhhddifmkijhaaGreat
