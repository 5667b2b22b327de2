/-
  May and Apply in plain Lean; what a record that may be is like.
-/
import Derived.Test.YtdhhddifmkijhaaGreatIdxQ
namespace Go.Proofs.YtdhhddifmkijhaaGreat

def Ix.may (x : Ix) (r : RecD) : Int :=
  if recCheck r ≠ 0 then recCheck r
  else if (r.kind == 0 && (x.known r.ent.key || has x.H r.vol.id)) = true then 13
  else if ((r.kind == 1 && !(aGet r.key x.E).isSome) || (r.kind == 2 && !(aGet r.vol.id x.V).isSome) || (r.kind == 3 && (!(aGet r.frm x.V).isSome || !(aGet r.to x.V).isSome))) = true then 9
  else if (r.kind == 2 && (decide (r.vol.gen ≤ (x.vol r.vol.id).1.gen) || !decide (r.vol.len = (x.vol r.vol.id).1.len))) = true then 1
  else if (r.kind == 3 && has x.H r.vol.id) = true then 13
  else if (r.kind == 3 && !decide (r.vol.len = (x.vol r.frm).1.len + (x.vol r.to).1.len)) = true then 1
  else 0
structure MayBe (r : RecD) : Prop where
  seq : inB r.seq 63 = true
  kind : inB r.kind 3 = true
  vol : r.kind ≠ 1 → volOk r.vol = true
  key0 : r.kind = 0 → keyOk r.ent.key = true
  key1 : r.kind = 1 → keyOk r.key = true
  ent : r.kind = 0 → entOk r = true
  frm : r.kind = 3 → fromOk r = true
  named : namedR r = r
theorem check_zero {r : RecD} (h : recCheck r = 0) : MayBe r := by
  unfold recCheck at h
  split at h
  · cases h
  rename_i h1
  split at h
  · cases h
  rename_i h2
  split at h
  · cases h
  rename_i h3
  split at h
  · cases h
  rename_i h4
  split at h
  · cases h
  rename_i h5
  split at h
  · cases h
  rename_i h6
  simp only [Bool.not_eq_true', Bool.not_eq_false, Bool.and_eq_true] at h1
  refine ⟨h1.1, h1.2, fun hk => ?_, fun hk => ?_, fun hk => ?_, fun hk => ?_, fun hk => ?_, by simpa using h6⟩
  · simpa [hk] using h2
  · simpa [hk] using h3
  · simpa [hk] using h3
  · simpa [hk] using h4
  · simpa [hk] using h5
theorem MayBe.bounds {r : RecD} (h : MayBe r) : r.ent.key.size ≤ 32 ∧ r.key.size ≤ 32 ∧ (0 ≤ r.frm ∧ r.frm ≤ 1099511627776) ∧ (0 ≤ r.to ∧ r.to ≤ 1099511627776) ∧ (0 ≤ r.vol.id ∧ r.vol.id ≤ 1099511627776) := by
  have he : E0.size ≤ 32 := by decide
  have hz : (0 : Int) ≤ 0 ∧ (0 : Int) ≤ 1099511627776 := by decide
  have hn := h.named
  by_cases h1 : r.kind = 1
  · unfold namedR at hn
    rw [if_pos h1] at hn
    rw [← hn]
    exact ⟨he, keyOk_size (h.key1 h1), hz, hz, hz⟩
  · have hv := vol_id (h.vol h1)
    by_cases h0 : r.kind = 0
    · have hke := keyOk_size (h.key0 h0)
      unfold namedR at hn
      rw [if_neg h1, if_pos h0] at hn
      rw [← hn]
      exact ⟨hke, he, hz, hz, hv⟩
    · by_cases h3 : r.kind = 3
      · have hf := h.frm h3
        unfold fromOk at hf
        simp only [Bool.and_eq_true] at hf
        have hf1 := inB_true hf.1.1
        have hf2 := inB_true hf.1.2
        unfold namedR at hn
        rw [if_neg h1, if_neg h0, if_pos h3] at hn
        rw [← hn]
        exact ⟨he, he, hf1, hf2, hv⟩
      · unfold namedR at hn
        rw [if_neg h1, if_neg h0, if_neg h3] at hn
        rw [← hn]
        exact ⟨he, he, hz, hz, hv⟩
/-- an entry when two volumes, frm (of length len) and to, become one -/
def moved (frm to id len : Int) (n : EntD) : EntD :=
  if n.vol = to then { n with off := n.off + len, vol := id } else if n.vol = frm then { n with vol := id } else n
def Ix.merge (x : Ix) (r : RecD) : List VolD × Ix :=
  ((takeL [r.frm, r.to] x.V).1, Ix.lay { x with V := (takeL [r.frm, r.to] x.V).2, E := x.E.map fun p => (p.1, moved r.frm r.to r.vol.id (vget r.frm x.V).len p.2) } r.vol)
def Ix.apply (x : Ix) (r : RecD) : Ix × List VolD × Int :=
  if x.may r ≠ 0 then (x, [], x.may r)
  else if r.kind = 0 then (Ix.lay { x with E := aPut r.ent.key r.ent x.E } r.vol, [], 0)
  else if r.kind = 1 then ((x.remove r.key).2, (x.remove r.key).1, 0)
  else if r.kind = 2 then (Ix.lay { x with V := (takeL [r.vol.id] x.V).2 } r.vol, (takeL [r.vol.id] x.V).1, 0)
  else ((x.merge r).2, (x.merge r).1, 0)
end Go.Proofs.YtdhhddifmkijhaaGreat
