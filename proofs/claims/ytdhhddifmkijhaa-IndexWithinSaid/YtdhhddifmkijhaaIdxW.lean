/-
  What comes of maps.Keys: a permutation of the map's keys.
-/
import Derived.Test.YtdhhddifmkijhaaIdxV
namespace Go.Proofs.Ytdhhddifmkijhaa
open Go.RowKit Go.Maps Go.Sort Go.Shelf

theorem lit_int {n : Int} (hn : (Lit.int .i64 n).wf = true) : litOf Try.prog 3 (.int .i64 n) = .int .i64 n := by
  unfold litOf
  rw [keyOf_int_mk under_int hn]
  rfl
theorem nodup_str {l : List ByteArray} (h : l.Nodup) : (l.map fun k => k.data.toList).Nodup :=
  List.pairwise_map.2 (h.imp fun hne e => hne (bytes_inj e))
theorem allk_ents {I : Ib} {w : World} {x : Ix} (h : IxAt I w x) (hf : Fit x) {xs : List (List UInt8)} (ha : AllK litS (datE x) xs) : xs.Perm (x.E.map fun p => p.1.data.toList) := by
  have hn := nodup_str h.keysE
  rw [List.map_map] at hn
  refine (List.perm_ext_iff_of_nodup ha.1 hn).2 fun k => ?_
  rw [ha.2 k]
  unfold datE
  rw [datOf_has]
  constructor
  · rintro ⟨p, hp, h1⟩
    rw [lit_str (max_key (hf.keys p hp).1)] at h1
    exact List.mem_map.2 ⟨p, hp, same_str h1⟩
  · intro hm
    obtain ⟨p, hp, he⟩ := List.mem_map.1 hm
    simp only [Function.comp] at he
    refine ⟨p, hp, ?_⟩
    rw [lit_str (max_key (hf.keys p hp).1), he]
    exact same_refl _
/-- the volumes' datum -/
noncomputable def datV (VS : List (Int × VolD × Value)) : DataW Value := datOf Try.prog 3 (Value.int .i64) (VS.map volF)
theorem vols_own {x : Ix} (hf : Fit x) {w : World} {b : Nat} {VS : List (Int × VolD × Value)} (hv : VS.map volP = x.V) (hm : MapK (Value.int .i64) w b (VS.map volF)) (hz : x.V.length ≤ 1000) :
    w.ownsMap Try.prog 3 (rDec (fun v => some v)) b (VS.map volF).length (datV VS) := by
  have hl : (VS.map volF).length = x.V.length := by rw [← hv, List.length_map, List.length_map]
  refine MapK.owns (ev := fun v => v) (encs_int under_int) (fun _ => rfl) (l := VS.map volF) ?_ (hf.kV hv) (by omega)
  have : (VS.map volF).map (fun p => (p.1, p.2)) = VS.map volF := by rw [List.map_map]; rfl
  rw [this]
  exact hm
theorem same_int {a b : Int} (h : (Lit.int .i64 a).sameKey (.int .i64 b) = true) : a = b := by
  by_cases e : a = b
  · exact e
  · have := sameI b a
    rw [decide_eq_false e] at this
    rw [this] at h
    cases h
theorem allk_vols {x : Ix} (hf : Fit x) {w : World} {b : Nat} {VS : List (Int × VolD × Value)} (hv : VS.map volP = x.V) (hm : MapK (Value.int .i64) w b (VS.map volF)) {xs : List Int} (ha : AllK litI (datV VS) xs) : xs.Perm (x.V.map (·.1)) := by
  have hn : (x.V.map (·.1)).Nodup := by
    obtain ⟨es, clock, -, -, -, -, hnd⟩ := hm
    rw [← hv, List.map_map]
    rw [List.map_map] at hnd
    exact hnd
  refine (List.perm_ext_iff_of_nodup ha.1 hn).2 fun k => ?_
  rw [ha.2 k]
  unfold datV
  rw [datOf_has]
  have hk := hf.kV hv
  constructor
  · rintro ⟨p, hp, h1⟩
    rw [lit_int (hk p hp)] at h1
    obtain ⟨q, hq, rfl⟩ := List.mem_map.1 hp
    rw [← hv, List.map_map]
    exact List.mem_map.2 ⟨q, hq, same_int h1⟩
  · intro hm'
    rw [← hv, List.map_map] at hm'
    obtain ⟨q, hq, rfl⟩ := List.mem_map.1 hm'
    refine ⟨volF q, List.mem_map.2 ⟨q, hq, rfl⟩, ?_⟩
    rw [lit_int (hk _ (List.mem_map.2 ⟨q, hq, rfl⟩))]
    exact (sameI _ _).trans (decide_eq_true rfl)
end Go.Proofs.Ytdhhddifmkijhaa
