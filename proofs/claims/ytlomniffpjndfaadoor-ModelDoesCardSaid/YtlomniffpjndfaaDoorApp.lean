/-
  append to a slice of one's own: what was there stays readable, in place or not. Over any program.
-/
import Derived.Test.YtlomniffpjndfaaDoorP1
import Derived.ArgAppend
import Derived.Laws.AppendOwn
namespace Go.Proofs.YtlomniffpjndfaaDoor
open Go.RowKit

/-- block g has kept its first m cells -/
def Prefix (g : Option Nat) (m : Nat) (w w' : World) : Prop :=
  ∀ b, g = some b → ∀ c t, w.heap[b]? = some (.cells c t (0, 0)) → ∃ c', w'.heap[b]? = some (.cells c' t (0, 0)) ∧ c'.size = c.size ∧ ∀ j, j < m → c'[j]? = c[j]?
theorem Prefix.of_kp {g : Option Nat} {m : Nat} {X : List Nat} {w w' : World} (h : Kp X w w') (hx : ∀ b, g = some b → b ∉ X) : Prefix g m w w' :=
  fun b hb c _ hc => ⟨c, (h.block b (lt_of_block hc) (hx b hb)).trans hc, rfl, fun _ _ => rfl⟩
theorem Prefix.trans {g : Option Nat} {m : Nat} {a b c : World} (h : Prefix g m a b) (k : Prefix g m b c) : Prefix g m a c := by
  intro i hi d t hd
  obtain ⟨d1, h1, h2, h3⟩ := h i hi d t hd
  obtain ⟨d2, k1, k2, k3⟩ := k i hi d1 t h1
  exact ⟨d2, k1, k2.trans h2, fun j hj => (k3 j hj).trans (h3 j hj)⟩
theorem Prefix.mono {g : Option Nat} {m n : Nat} {a b : World} (h : Prefix g m a b) (hn : n ≤ m) : Prefix g n a b := by
  intro i hi d t hd
  obtain ⟨d1, h1, h2, h3⟩ := h i hi d t hd
  exact ⟨d1, h1, h2, fun j hj => h3 j (by omega)⟩
/-- a slice that is owned stays so where its block keeps its cells -/
theorem ownsRow_prefix {w w' : World} {base : Nat} {e : TypeId} {sz n : Nat} {v : Value} {cs : List Value} (h : w.ownsRow base e sz v n cs) {m : Nat} (hp : Prefix v.ownBlock m w w') (hm : n * sz ≤ m) : w'.ownsRow base e sz v n cs := by
  obtain ⟨hl, ⟨hv, hn⟩ | ⟨g, cap, cur, hv, hg, hb', hc, hm', hs, ht⟩⟩ := h
  · exact ⟨hl, .inl ⟨hv, hn⟩⟩
  · obtain ⟨cur', h1, h2, h3⟩ := hp g (by rw [hv]; rfl) cur e hb'
    refine ⟨hl, .inr ⟨g, cap, cur', hv, hg, h1, hc, hm', by rw [h2]; exact hs, ?_⟩⟩
    rw [← ht]
    apply List.ext_getElem?
    intro j
    rw [List.getElem?_take, List.getElem?_take]
    by_cases hj : j < n * sz
    · rw [if_pos hj, if_pos hj, Array.getElem?_toList, Array.getElem?_toList]; exact h3 j (by omega)
    · rw [if_neg hj, if_neg hj]

theorem grownBy_alloc {w w' : World} {o : Obj} {r : Option Nat} (h : (w.alloc o).grownBy w' r) (_hr : ∀ k, r = some k → k < w.heap.size) : w.grownBy w' r :=
  ⟨h.os, h.tape, h.output, Nat.le_trans (by simp) h.size, fun k hk hx => (h.block k (by simp; omega) hx).trans (Below.heap_alloc w o k hk)⟩

section
variable {P : Program}
/-- append to a slice that came in, both ways, of one operation -/
theorem wp_append_arg (w : World) {o : Oper} {a : Act} {K : Act → World → Prop} {Q : Exit → Act → World → Prop}
    (s x : Operand) (t : TypeId) (hop : o.op = Op.call { callee := Callee.builtin Builtin.append, args := #[s, x], argTypes := #[t, t] })
    (e : TypeId) (i : TypeInfo) (z : Value) (size bytes : Nat) (h1 : P.underlying t = some (.slice e)) (h2 : P.info? e = some i) (h3 : i.zero = some z) (h4 : i.size = size) (h5 : i.bytes = bytes) (h6 : z.cells.size = size) (h7 : 0 < size)
    (b off n cap : Nat) (olds : List Value) (hs : a.eval s = .slice (some ⟨b, off, none⟩) n cap) (hlo : olds.length = n * size) (holds : ∀ j u, olds[j]? = some u → w.cell? ⟨b, off + j, none⟩ = some u)
    (ad : Addr) (m c : Nat) (news : List Value) (hx : a.eval x = .slice (some ad) m c) (hn : news.length = m * size) (hc : ∀ j u, news[j]? = some u → w.cell? (ad.add j) = some u) (h1c : ∀ u ∈ news, u.oneCell' = true)
    (hspare : n + m ≤ cap → ∀ j, j < news.length → (w.cell? ⟨b, off + n * size + j, none⟩).isSome = true ∧ w.frozen? ⟨b, off + n * size + j, none⟩ = false)
    (b1 : n + m ≤ maxLen) (b2 : (n + m) * bytes ≤ 140737488355328)
    (hroom : n + m ≤ cap → K (a.put o.dst (.slice (some ⟨b, off, none⟩) (n + m) cap)) (w.setCells b (off + n * size) news))
    (hgrow : cap < n + m → ∀ v' w', w'.ownsRow w.heap.size e size v' (n + m) (olds ++ news) → w.grownBy w' none → K (a.put o.dst v') w') :
    o.wp P a w K Q := by
  by_cases hr : n + m ≤ cap
  · subst h4
    have hrun := run_append_room_cells (P := P) w t o.type e i h1 h2 b off n cap ad m c news hn hc h1c hr (fun j hj => (hspare hr j hj).1) (fun j hj => (hspare hr j hj).2)
    unfold Oper.wp
    simp [execOp, hop, resolve, invoke, builtin, hs, hx, hrun, Result.andThen]
    exact hroom hr
  · obtain ⟨v', w', hrun, r1, r2⟩ := run_append_arg_grows (P := P) w t o.type e i z size bytes h1 h2 h3 h4 h5 h6 h7 ⟨b, off, none⟩ n cap olds hlo (fun j u hj => by rw [Addr.add_lit]; exact holds j u hj) ad m c news hn hc (by omega) b1 b2
    unfold Oper.wp
    simp [execOp, hop, resolve, invoke, builtin, hs, hx, hrun, Result.andThen]
    exact hgrow (by omega) v' w' r1 r2
theorem wp_append_mine (w : World) {o : Oper} {a : Act} {K : Act → World → Prop} {Q : Exit → Act → World → Prop} (s x : Operand) (t : TypeId)
    (ho : o.op = .call { callee := .builtin .append, args := #[s, x], argTypes := #[t, t] }) (base : Nat) (e : TypeId) (i : TypeInfo) (z : Value) (size bytes : Nat)
    (ht : P.underlying t = some (.slice e)) (hi : P.info? e = some i) (hz : i.zero = some z) (hsz : i.size = size) (hby : i.bytes = bytes) (hzs : z.cells.size = size) (hpos : 0 < size)
    (v : Value) (n : Nat) (xs : List Value) (hv : a.eval s = v) (hown : w.ownsRow base e size v n xs) (ad : Addr) (m c : Nat) (news : List Value) (hx : a.eval x = .slice (some ad) m c)
    (hnl : news.length = m * size) (hnews : ∀ (j : Nat) (u : Value), news[j]? = some u → w.cell? (ad.add j) = some u) (h1 : ∀ u, u ∈ news → u.oneCell' = true)
    (hmax : n + m ≤ maxLen) (hbytes : (n + m) * bytes ≤ 140737488355328) (hbase : base ≤ w.heap.size)
    (h : ∀ (v' : Value) (w' : World), w'.ownsRow base e size v' (n + m) (xs ++ news) → Kp v.ownBlock.toList w w' → Prefix v.ownBlock (n * size) w w' → (∀ g, v'.ownBlock = some g → v.ownBlock = some g ∨ w.heap.size ≤ g) →
      K (a.put o.dst v') w') : o.wp P a w K Q := by
  have hown0 := hown
  obtain ⟨hl, ⟨hv0, hn⟩ | ⟨g, cap, cur, hv0, hg, hb, hc, hm, hs, htk⟩⟩ := hown
  · -- nil
    refine wp_append_own w s x t ho w.heap.size e i z size bytes ht hi hz hsz hby hzs hpos v n xs hv ⟨hl, .inl ⟨hv0, hn⟩⟩ ad m c news hx hnl hnews h1 hmax hbytes (Nat.le_refl _) ?_
    intro v' w' hown' hgr _
    have hob : v.ownBlock = none := by rw [hv0]; rfl
    refine h v' w' (ownsRow_base hown' hbase) (by rw [hob]; rw [hob] at hgr; exact Kp.of_grown hgr) (fun b hb' => by rw [hob] at hb'; cases hb') (fun g hg => .inr (own_block_ge hown' g hg))
  · have hob : v.ownBlock = some g := by rw [hv0]; rfl
    have holds : ∀ (j : Nat) (u : Value), xs[j]? = some u → w.cell? ⟨g, 0 + j, none⟩ = some u := by
      intro j u hu
      refine cell_of_cells hb ?_
      rw [Nat.zero_add, ← Array.getElem?_toList]
      rw [← htk, List.getElem?_take] at hu
      split at hu
      · exact hu
      · cases hu
    refine wp_append_arg w s x t ho e i z size bytes ht hi hz hsz hby hzs hpos g 0 n cap xs (hv.trans hv0) hl holds ad m c news hx hnl hnews h1 ?_ hmax hbytes ?_ ?_
    · intro hcap j hj
      have hlt : 0 + n * size + j < cur.size := by
        rw [hs]
        have h2 : (n + m) * size ≤ cap * size := Nat.mul_le_mul_right _ hcap
        rw [Nat.add_mul] at h2
        omega
      exact ⟨by rw [cell_of_cells hb (v := cur[0 + n * size + j]'hlt) (by simp)]; rfl, frozen_of_cells hb _⟩
    · intro hcap
      have h2 : (n + m) * size ≤ cap * size := Nat.mul_le_mul_right _ hcap
      rw [Nat.add_mul] at h2
      obtain ⟨c', k1, k2, k3, k4⟩ := setCells_block news w (0 + n * size) cur hb (by rw [hs, hnl]; omega)
      refine h _ _ ⟨?_, .inr ⟨g, cap, c', rfl, hg, k1, hcap, hm, by rw [k2]; exact hs, ?_⟩⟩ ?_ ?_ ?_
      · rw [List.length_append, hl, hnl, Nat.add_mul]
      · apply List.ext_getElem?
        intro j
        rw [List.getElem?_take, Array.getElem?_toList]
        by_cases hj : j < n * size
        · rw [if_pos (by rw [Nat.add_mul]; omega), k3 j (by omega), List.getElem?_append_left (by omega), ← htk, List.getElem?_take, if_pos hj, Array.getElem?_toList]
        · rw [List.getElem?_append_right (by omega), hl]
          by_cases hj2 : j < (n + m) * size
          · rw [if_pos hj2]
            rw [Nat.add_mul] at hj2
            have := k4 (j - n * size) (news[j - n * size]'(by omega)) (by simp)
            rw [show 0 + n * size + (j - n * size) = j from by omega] at this
            rw [this, List.getElem?_eq_getElem (by omega)]
          · rw [if_neg hj2]
            rw [Nat.add_mul] at hj2
            rw [List.getElem?_eq_none (by omega)]
      · rw [hob]; exact Kp.setCells (.inl (by simp)) _ _ (Kp.refl _ _)
      · intro b hb' d t' hd
        rw [hob] at hb'
        obtain rfl : g = b := by simpa using hb'
        obtain ⟨d', p1, p2, p3, -⟩ := setCells_block news w (0 + n * size) d hd (by
          rw [hb] at hd
          simp only [Option.some.injEq, Obj.cells.injEq] at hd
          obtain ⟨rfl, -, -⟩ := hd
          rw [hs, hnl]; omega)
        exact ⟨d', p1, p2, fun j hj => p3 j (by omega)⟩
      · intro g' hg'
        refine .inl ?_
        rw [hob]; exact hg'
    · intro _ v' w' hown' hgr
      have hk : Kp [] w w' := Kp.of_grown hgr
      exact h v' w' (ownsRow_base hown' hbase) (hk.weaken (fun _ _ h => by cases h)) (Prefix.of_kp hk (fun _ _ => by simp)) (fun g hg => .inr (own_block_ge hown' g hg))
theorem wpList_append_mine (w : World) {ops : Array Oper} {rest : List Oper} {o : Oper} {a : Act} {Q : Exit → Act → World → Prop} (hgd : o.guard = none) (s x : Operand) (t : TypeId)
    (ho : o.op = .call { callee := .builtin .append, args := #[s, x], argTypes := #[t, t] }) (base : Nat) (e : TypeId) (i : TypeInfo) (z : Value) (size bytes : Nat)
    (ht : P.underlying t = some (.slice e)) (hi : P.info? e = some i) (hz : i.zero = some z) (hsz : i.size = size) (hby : i.bytes = bytes) (hzs : z.cells.size = size) (hpos : 0 < size)
    (v : Value) (n : Nat) (xs : List Value) (hv : a.eval s = v) (hown : w.ownsRow base e size v n xs) (ad : Addr) (m c : Nat) (news : List Value) (hx : a.eval x = .slice (some ad) m c)
    (hnl : news.length = m * size) (hnews : ∀ (j : Nat) (u : Value), news[j]? = some u → w.cell? (ad.add j) = some u) (h1 : ∀ u, u ∈ news → u.oneCell' = true)
    (hmax : n + m ≤ maxLen) (hbytes : (n + m) * bytes ≤ 140737488355328) (hbase : base ≤ w.heap.size)
    (h : ∀ (v' : Value) (w' : World), w'.ownsRow base e size v' (n + m) (xs ++ news) → Kp v.ownBlock.toList w w' → Prefix v.ownBlock (n * size) w w' → (∀ g, v'.ownBlock = some g → v.ownBlock = some g ∨ w.heap.size ≤ g) →
      wpList P ops Q rest (a.put o.dst v') w') : wpList P ops Q (o :: rest) a w :=
  wpList_plain hgd fun _ hK => wp_append_mine w s x t ho base e i z size bytes ht hi hz hsz hby hzs hpos v n xs hv hown ad m c news hx hnl hnews h1 hmax hbytes hbase
    (fun v' w' h1 h2 h3 h4 => hK _ _ (h v' w' h1 h2 h3 h4))
end
end Go.Proofs.YtlomniffpjndfaaDoor
