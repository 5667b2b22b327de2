/-
  Records and indexes, in plain Lean.
-/
import Derived.Test.YtdhhddifmkijhaaGreatReqB
import Derived.Test.YtdhhddifmkijhaaGreatMap
namespace Go.Proofs.YtdhhddifmkijhaaGreat
open Go.RowKit

structure VolD where
  id : Int
  gen : Int
  len : Int
  locs : List (Int × Int)
deriving DecidableEq
structure EntD where
  key : ByteArray
  vol : Int
  off : Int
  len : Int
  dig : ByteArray
deriving DecidableEq
structure RecD where
  seq : Int
  kind : Int
  vol : VolD
  ent : EntD
  key : ByteArray
  frm : Int
  to : Int
deriving DecidableEq
abbrev E0 : ByteArray := ⟨#[]⟩
abbrev zeroVol : VolD := ⟨0, 0, 0, []⟩
abbrev zeroEnt : EntD := ⟨E0, 0, 0, 0, E0⟩
def inB (n m : Int) : Bool := decide (0 ≤ n) && decide (n ≤ m)
def locOk (p : Int × Int) : Bool := inB p.1 11 && inB p.2 47
/-- the disks, each once -/
def disksOf : List (Int × Int) → List Int
  | [] => []
  | p :: r => if p.1 ∈ r.map (·.1) then disksOf r else p.1 :: disksOf r
def addDisk (l : List Int) (d : Int) : List Int := if d ∈ l then l else l ++ [d]
def disksTo (l : List (Int × Int)) : List Int := l.foldl (fun a p => addDisk a p.1) []
def volOk (v : VolD) : Bool := v.locs.all locOk && (inB v.id 1099511627776 && inB v.gen 1099511627776 && inB v.len 384 && decide (v.locs.length = 9) && decide ((disksTo v.locs).length = 9))
def namedR (r : RecD) : RecD :=
  if r.kind = 1 then ⟨r.seq, r.kind, zeroVol, zeroEnt, r.key, 0, 0⟩
  else if r.kind = 0 then ⟨r.seq, r.kind, r.vol, r.ent, E0, 0, 0⟩
  else if r.kind = 3 then ⟨r.seq, r.kind, r.vol, zeroEnt, E0, r.frm, r.to⟩
  else ⟨r.seq, r.kind, r.vol, zeroEnt, E0, 0, 0⟩
def entOk (r : RecD) : Bool := decide (r.ent.vol = r.vol.id) && inB r.ent.off r.vol.len && inB r.ent.len (r.vol.len - r.ent.off) && decide (r.ent.dig.size = 32)
def fromOk (r : RecD) : Bool := inB r.frm 1099511627776 && inB r.to 1099511627776 && !decide (r.frm = r.to)
def recCheck (r : RecD) : Int :=
  if !(inB r.seq 63 && inB r.kind 3) then 1
  else if !decide (r.kind = 1) && !volOk r.vol then 1
  else if (decide (r.kind = 0) && !keyOk r.ent.key) || (decide (r.kind = 1) && !keyOk r.key) then 11
  else if decide (r.kind = 0) && !entOk r then 1
  else if decide (r.kind = 3) && !fromOk r then 1
  else if !decide (namedR r = r) then 1 else 0
def smallR (r : RecD) : Bool := decide (r.vol.locs.length ≤ 20) && decide (r.ent.key.size ≤ 100) && decide (r.ent.dig.size ≤ 100) && decide (r.key.size ≤ 100)

/-- cells -/
def locV (p : Int × Int) : List Value := [.int .i64 p.1, .int .i64 p.2]
def VolV (v : VolD) (lv : Value) : List Value := [.int .i64 v.id, .int .i64 v.gen, .int .i64 v.len, lv]
def EntV (e : EntD) : List Value := [.string e.key, .int .i64 e.vol, .int .i64 e.off, .int .i64 e.len, .string e.dig]
def RecV (r : RecD) (lv : Value) : Array Value :=
  #[.int .i64 r.seq, .int .i64 r.kind, .int .i64 r.vol.id, .int .i64 r.vol.gen, .int .i64 r.vol.len, lv, .string r.ent.key, .int .i64 r.ent.vol, .int .i64 r.ent.off, .int .i64 r.ent.len, .string r.ent.dig, .string r.key, .int .i64 r.frm, .int .i64 r.to]
abbrev LocsAt (B : Nat) (w : World) (v : Value) (l : List (Int × Int)) : Prop := SliceAt B w v 2 l.length (l.flatMap locV)
theorem flat2 : ∀ (l : List (Int × Int)) (i : Nat) (hi : i < l.length), (l.flatMap locV)[i * 2]? = some (.int .i64 l[i].1) ∧ (l.flatMap locV)[i * 2 + 1]? = some (.int .i64 l[i].2)
  | [], i, hi => by simp at hi
  | p :: r, 0, _ => by simp [locV]
  | p :: r, i + 1, hi => by
    have ih := flat2 r i (by simpa using hi)
    have e : (p :: r).flatMap locV = locV p ++ r.flatMap locV := rfl
    rw [e]
    constructor
    · rw [List.getElem?_append_right (by simp [locV]; omega)]
      simpa [locV, Nat.add_mul] using ih.1
    · rw [List.getElem?_append_right (by simp [locV]; omega)]
      have : (i + 1) * 2 + 1 - (locV p).length = i * 2 + 1 := by simp [locV]; omega
      rw [this]
      simpa using ih.2
theorem loc_at {B : Nat} {w : World} {v : Value} {l : List (Int × Int)} (h : LocsAt B w v l) (i : Nat) (hi : i < l.length) :
    ∃ g o c, v = .slice (some ⟨g, o, none⟩) l.length c ∧ w.cell? ⟨g, o + i * 2, none⟩ = some (.int .i64 l[i].1) ∧ w.cell? ⟨g, o + i * 2 + 1, none⟩ = some (.int .i64 l[i].2) := by
  obtain ⟨av, cap, rfl⟩ := slice_ex h
  obtain ⟨g, o, rfl, hc, -, hb, hcell⟩ := h.cells (by omega)
  obtain ⟨h1, h2⟩ := flat2 l i hi
  exact ⟨g, o, cap, rfl, hcell _ _ h1, by have := hcell _ _ h2; rwa [← Nat.add_assoc] at this⟩
theorem nil_locs (B : Nat) (W : World) : LocsAt B W (.slice none 0 0) [] := ⟨rfl, none, 0, rfl, fun h => absurd h (by decide)⟩

set_option maxRecDepth 20000 in
theorem rin (n m : Int) (w : World) : Calls Tryz.prog 50 #[.int .i64 n, .int .i64 m] w fun e w' => e = .returned (.bool (inB n m)) ∧ w' = w := by
  unfold inB
  by_cases h0 : 0 ≤ n
  · rw [decide_eq_true h0, Bool.true_and]
    by_cases h1 : n ≤ m
    · rw [decide_eq_true h1]
      have hd : decide (n ≤ m) = true := decide_eq_true h1
      go_enter Tryz.func50, Tryz.ntmps50
      go_wp2_with fail
      go_ret
      exact ⟨rfl, rfl⟩
    · rw [decide_eq_false h1]
      have hd : decide (n ≤ m) = false := decide_eq_false h1
      go_enter Tryz.func50, Tryz.ntmps50
      go_wp2_with fail
      go_ret
      exact ⟨rfl, rfl⟩
  · rw [decide_eq_false h0, Bool.false_and]
    go_enter Tryz.func50, Tryz.ntmps50
    go_wp2_with fail
    go_ret
    exact ⟨rfl, rfl⟩
theorem keyOk_size {k : ByteArray} (h : keyOk k = true) : k.size ≤ 32 := by
  unfold keyOk at h
  simp only [Bool.and_eq_true, decide_eq_true_eq] at h
  exact h.2.2
theorem needle_plain (k : ByteArray) : (needleE k E0 == 0) = keyOk k := by
  unfold needleE
  cases h : keyOk k with
  | false => rfl
  | true =>
    have hs := keyOk_size h
    rw [if_pos rfl, if_neg]
    · rfl
    · have h1 : numLen k.size ≤ 3 := by
        unfold numLen
        repeat' split
        all_goals omega
      have h2 : numLen E0.size ≤ 3 := by decide
      have h3 : E0.size = 0 := rfl
      omega
set_option maxRecDepth 20000 in
theorem rplain (k : ByteArray) (hk : k.size < 16384) (w : World) : Calls Tryz.prog 52 #[.string k] w fun e w' => e = .returned (.bool (keyOk k)) ∧ Kp [] w w' := by
  obtain ⟨R, hR⟩ : ∃ R, R = keyOk k := ⟨_, rfl⟩
  rw [← hR]
  rw [← needle_plain] at hR
  obtain ⟨e, he⟩ : ∃ e, e = needleE k E0 := ⟨_, rfl⟩
  rw [← he] at hR
  have HR := Lib.hid hR
  have HE := Lib.hid he
  clear hR he
  go_enter Tryz.func52, Tryz.ntmps52
  go_wp2_with fail
  refine (ncheck k E0 hk (by decide) _).mono ?_
  rintro e w1 ⟨rfl, k1⟩
  rw [← HE.out]
  go_wp2_with fail
  go_ret
  exact ⟨by rw [HR.out]; rfl, k1⟩
end Go.Proofs.YtdhhddifmkijhaaGreat
