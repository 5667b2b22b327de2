/-
  Commands' laws: what the rows list, as facts of the world; arguments that are commands.
-/
import Derived.Test.YtmihnakapnoefaaGreatDoorScrT
import Derived.Test.YtmihnakapnoefaaGreatDoorTie
import Derived.Test.YtmihnakapnoefaaGreatDoorCards
import Derived.Lib.LaidU8
namespace Go.Proofs.YtmihnakapnoefaaGreatDoor
open Go.ChangeShapes Go.WideShapes Go.ChangeAt Go.RowKit Go.WideElems

theorem tabIs_of_reads {P : Program} {W : World} {name : String} {k : IntKind} {zs : List Int} {g : Nat} {t e : TypeId} {n : Nat}
    (hg : P.globalNamed name = some g) (hty : (P.globals[g]?).map (·.type) = some t) (ht : P.underlying t = some (.array n e)) (he : P.underlying e = some (.int k)) (hce : P.cellsOf e = 1) (hct : P.cellsOf t = n)
    (h : Lib.VarReads P W name (Lib.tabData k zs)) : Lib.TabIs P W name k zs := by
  obtain ⟨g', t', cs, fuel, p, hg', ht', hvar, hd⟩ := h
  obtain rfl := Option.some.inj (hg.symm.trans hg')
  obtain rfl := Option.some.inj (hty.symm.trans ht')
  unfold Lib.TabIs
  rw [hvar, ← Lib.cells_of_tab ht he hce hct hd]
theorem iface_of_trod {H : Type} {enc : TypeId × Value → H} {P : Program} {w : World} {base : Nat} {sp : Nat → Bool} {held : Bool} {fuel : Nat} {t : TypeId} {ms} {cs : List Value} {n : String} {d : DataW H} {p : List MemPlace}
    (ht : P.underlying t = some (.interface ms)) (h : DataW.trod enc P w base sp held fuel t cs = some (.iface n d, p)) : ∃ u v, cs = [.iface u v] := by
  cases fuel with
  | zero => simp [DataW.trod] at h
  | succ fuel =>
    unfold DataW.trod at h
    rw [ht] at h
    match cs, h with
    | [], h => simp at h
    | [v], h => cases v <;> first | exact ⟨_, _, rfl⟩ | simp at h
    | a :: b :: r, h => simp at h
/-- a listed variable that is an interface value: its cell -/
theorem iface_of_reads {P : Program} {W : World} {name n : String} {d : DataW Unit} {g : Nat} {t : TypeId} {ms}
    (hg : P.globalNamed name = some g) (hty : (P.globals[g]?).map (·.type) = some t) (ht : P.underlying t = some (.interface ms))
    (h : Lib.VarReads P W name (.iface n d)) : ∃ u v, W.cell? ⟨g, 0, none⟩ = some (.iface u v) := by
  obtain ⟨g', t', cs, fuel, p, hg', ht', hvar, hd⟩ := h
  obtain rfl := Option.some.inj (hg.symm.trans hg')
  obtain rfl := Option.some.inj (hty.symm.trans ht')
  obtain ⟨u, v, e⟩ := iface_of_trod ht hd
  refine ⟨u, v, ?_⟩
  rw [World.var?_cell hg hvar 0, ← Array.getElem?_toList, e]; rfl

def laidAll : List (String × DataW Unit) := [("math/bits.deBruijn32tab", Rows.laid_math_bits_deBruijn32tab), ("math/bits.deBruijn64tab", Rows.laid_math_bits_deBruijn64tab), ("internal/strconv.uint64pow10", Rows.laid_internal_strconv_uint64pow10), ("unicode/utf8.acceptRanges", Rows.laid_unicode_utf8_acceptRanges), ("strconv.ErrRange", Rows.laid_strconv_ErrRange), ("strconv.ErrSyntax", Rows.laid_strconv_ErrSyntax), ("unicode/utf8.first", Rows.laid_unicode_utf8_first)]
theorem env_of_laid {W : World} (hsh : W.ShapedOpen Tryz.prog) (h : laidMetH Tryz.prog laidAll W) : Env W := by
  rw [MakeChecks.laidMetH_plain _ _ _ (by kernel_rfl)] at h
  have h1 := Lib.laidMet.reads h (n := "internal/strconv.uint64pow10") (d := Rows.laid_internal_strconv_uint64pow10) (.tail _ (.tail _ (.head _)))
  have h2 := Lib.laidMet.reads h (n := "strconv.ErrRange") (d := Rows.laid_strconv_ErrRange) (.tail _ (.tail _ (.tail _ (.tail _ (.head _)))))
  have h3 := Lib.laidMet.reads h (n := "strconv.ErrSyntax") (d := Rows.laid_strconv_ErrSyntax) (.tail _ (.tail _ (.tail _ (.tail _ (.tail _ (.head _))))))
  have e : (Rows.laid_internal_strconv_uint64pow10 : DataW Unit) = Lib.tabData .u64 Lib.pow10Tab := rfl
  rw [e] at h1
  obtain ⟨ms, hms⟩ : ∃ ms, Tryz.prog.underlying 84 = some (.interface ms) := ⟨_, Tryz.underlying84⟩
  exact ⟨hsh, tabIs_of_reads (g := 3) (t := 133) (e := 94) (n := 20) (by kernel_rfl) (by kernel_rfl) (by kernel_rfl) (by kernel_rfl) (by kernel_rfl) (by kernel_rfl) h1,
    iface_of_reads (g := 1) (t := 84) (by kernel_rfl) (by kernel_rfl) hms h3, iface_of_reads (g := 2) (t := 84) (by kernel_rfl) (by kernel_rfl) hms h2⟩
theorem tab_of_laid {W : World} (h : laidMetH Tryz.prog laidAll W) : laidMetH Tryz.prog laidAll W := h

theorem flat_bools : ∀ xs : List Bool, xs.flatMap (fun a => [Value.bool a]) = xs.map Value.bool
  | [] => rfl
  | x :: xs => by rw [List.flatMap_cons, flat_bools xs]; rfl
theorem bools_of {W : World} {cs : List Value} (h : Rd Tryz.prog W 24 cs) : ∃ (xs : List Bool) (v : Value), cs = [v] ∧ BoolsAt W.heap.size W v xs ∧ xs.length ≤ maxLen := by
  have h1 : Tryz.prog.cellsOf 4 = 1 := by kernel_rfl
  obtain ⟨xs, v, e, hs, -⟩ := rd_list Tryz.underlying24 h (fun a : Bool => [Value.bool a]) 1 h1 (by decide) (fun _ => rfl) (fun _ => True) (fun es he => by
    obtain ⟨s, e⟩ := rd_bool Tryz.underlying4 he
    exact ⟨s, e, trivial⟩)
  rw [flat_bools] at hs
  obtain ⟨av, len, cap, e2, hlc, hcm, -⟩ := rd_slice Tryz.underlying24 (by rw [h1]; decide) h
  have hs2 := hs
  obtain ⟨-, av', cap', hv, -⟩ := hs2
  refine ⟨xs, v, e, hs, ?_⟩
  rw [e, hv] at e2
  simp only [List.cons.injEq, Value.slice.injEq, and_true] at e2
  omega
set_option maxRecDepth 100000 in
theorem req_of {W : World} {cs : List Value} (h : Rd Tryz.prog W 23 cs) : ∃ kd k v, cs = [.int .i64 kd, .string k, .string v] := by
  obtain ⟨hl, hf⟩ := rd_struct Tryz.underlying23 h
  have h3 : Tryz.prog.cellsOf 23 = 3 := by kernel_rfl
  have h1 : Tryz.prog.cellsOf 3 = 1 := by kernel_rfl
  have h2 : Tryz.prog.cellsOf 9 = 1 := by kernel_rfl
  rw [h3] at hl
  match cs, hl with
  | [a, b, c], _ =>
    have f0 : Rd Tryz.prog W 3 (([a, b, c].drop 0).take (Tryz.prog.cellsOf 3)) := hf 0 _ rfl
    have f1 : Rd Tryz.prog W 9 (([a, b, c].drop 1).take (Tryz.prog.cellsOf 9)) := hf 1 _ rfl
    have f2 : Rd Tryz.prog W 9 (([a, b, c].drop 2).take (Tryz.prog.cellsOf 9)) := hf 2 _ rfl
    rw [h1] at f0
    rw [h2] at f1 f2
    change Rd Tryz.prog W 3 [a] at f0
    change Rd Tryz.prog W 9 [b] at f1
    change Rd Tryz.prog W 9 [c] at f2
    obtain ⟨d, e0, -⟩ := rd_int Tryz.underlying3 f0
    obtain ⟨s, e1, -⟩ := rd_string Tryz.underlying9 f1
    obtain ⟨v, e2, -⟩ := rd_string Tryz.underlying9 f2
    simp only [List.cons.injEq, and_true] at e0 e1 e2
    exact ⟨d, s, v, by rw [e0, e1, e2]⟩
set_option maxRecDepth 100000 in
theorem cmd_of {W : World} {cs : List Value} (h : Rd Tryz.prog W 26 cs) : ∃ (c : Cmd) (kv tv : Value), cs = (CmdV c kv tv).toList ∧ BoolsAt W.heap.size W kv c.keep ∧ BoolsAt W.heap.size W tv c.torn ∧ c.keep.length ≤ maxLen ∧ c.torn.length ≤ maxLen := by
  obtain ⟨hl, hf⟩ := rd_struct Tryz.underlying26 h
  have h3 : Tryz.prog.cellsOf 26 = 10 := by kernel_rfl
  have h1 : Tryz.prog.cellsOf 3 = 1 := by kernel_rfl
  have h2 : Tryz.prog.cellsOf 9 = 1 := by kernel_rfl
  have h4 : Tryz.prog.cellsOf 23 = 3 := by kernel_rfl
  have h5 : Tryz.prog.cellsOf 24 = 1 := by kernel_rfl
  rw [h3] at hl
  match cs, hl with
  | [c0, c1, c2, c3, c4, c5, c6, c7, c8, c9], _ =>
    have f0 : Rd Tryz.prog W 3 (([c0, c1, c2, c3, c4, c5, c6, c7, c8, c9].drop 0).take (Tryz.prog.cellsOf 3)) := hf 0 _ rfl
    have f1 : Rd Tryz.prog W 23 (([c0, c1, c2, c3, c4, c5, c6, c7, c8, c9].drop 1).take (Tryz.prog.cellsOf 23)) := hf 1 _ rfl
    have f2 : Rd Tryz.prog W 3 (([c0, c1, c2, c3, c4, c5, c6, c7, c8, c9].drop 4).take (Tryz.prog.cellsOf 3)) := hf 2 _ rfl
    have f3 : Rd Tryz.prog W 3 (([c0, c1, c2, c3, c4, c5, c6, c7, c8, c9].drop 5).take (Tryz.prog.cellsOf 3)) := hf 3 _ rfl
    have f4 : Rd Tryz.prog W 3 (([c0, c1, c2, c3, c4, c5, c6, c7, c8, c9].drop 6).take (Tryz.prog.cellsOf 3)) := hf 4 _ rfl
    have f5 : Rd Tryz.prog W 9 (([c0, c1, c2, c3, c4, c5, c6, c7, c8, c9].drop 7).take (Tryz.prog.cellsOf 9)) := hf 5 _ rfl
    have f6 : Rd Tryz.prog W 24 (([c0, c1, c2, c3, c4, c5, c6, c7, c8, c9].drop 8).take (Tryz.prog.cellsOf 24)) := hf 6 _ rfl
    have f7 : Rd Tryz.prog W 24 (([c0, c1, c2, c3, c4, c5, c6, c7, c8, c9].drop 9).take (Tryz.prog.cellsOf 24)) := hf 7 _ rfl
    rw [h1] at f0 f2 f3 f4
    rw [h2] at f5
    rw [h4] at f1
    rw [h5] at f6 f7
    change Rd Tryz.prog W 3 [c0] at f0
    change Rd Tryz.prog W 23 [c1, c2, c3] at f1
    change Rd Tryz.prog W 3 [c4] at f2
    change Rd Tryz.prog W 3 [c5] at f3
    change Rd Tryz.prog W 3 [c6] at f4
    change Rd Tryz.prog W 9 [c7] at f5
    change Rd Tryz.prog W 24 [c8] at f6
    change Rd Tryz.prog W 24 [c9] at f7
    obtain ⟨d0, e0, -⟩ := rd_int Tryz.underlying3 f0
    obtain ⟨r1, r2, r3, e1⟩ := req_of f1
    obtain ⟨d2, e2, -⟩ := rd_int Tryz.underlying3 f2
    obtain ⟨d3, e3, -⟩ := rd_int Tryz.underlying3 f3
    obtain ⟨d4, e4, -⟩ := rd_int Tryz.underlying3 f4
    obtain ⟨s5, e5, -⟩ := rd_string Tryz.underlying9 f5
    obtain ⟨xs, kv, e6, hk, zk⟩ := bools_of f6
    obtain ⟨ys, tv, e7, ht, zt⟩ := bools_of f7
    simp only [List.cons.injEq, and_true] at e0 e1 e2 e3 e4 e5 e6 e7
    obtain ⟨e1a, e1b, e1c⟩ := e1
    exact ⟨⟨d0, r1, r2, r3, d2, d3, d4, s5, xs, ys⟩, kv, tv, by rw [e0, e1a, e1b, e1c, e2, e3, e4, e5, e6, e7]; rfl, hk, ht, zk, zt⟩
set_option maxRecDepth 100000 in
theorem cmd_arg {W : World} {base : Nat} {v : Value} (hok : Value.okWide Tryz.prog W .any base 26 v) (h : Rd Tryz.prog W 26 v.cells.toList) :
    ∃ (c : Cmd) (ka ta : Option Addr) (kc tc : Nat), v = .agg (CmdV c (.slice ka c.keep.length kc) (.slice ta c.torn.length tc)) ∧ BoolsAt W.heap.size W (.slice ka c.keep.length kc) c.keep ∧ BoolsAt W.heap.size W (.slice ta c.torn.length tc) c.torn ∧ c.keep.length ≤ maxLen ∧ c.torn.length ≤ maxLen := by
  obtain ⟨cs, rfl, -⟩ := okWide_struct Tryz.underlying26 hok
  obtain ⟨c, kv, tv, e, hk, ht, zk, zt⟩ := cmd_of h
  have e' : cs.toList = (CmdV c kv tv).toList := e
  obtain ⟨ka, kc, rfl⟩ := slice_ex hk
  obtain ⟨ta, tc, rfl⟩ := slice_ex ht
  exact ⟨c, ka, ta, kc, tc, by rw [← Array.toArray_toList (xs := cs), e', Array.toArray_toList], hk, ht, zk, zt⟩
set_option maxRecDepth 100000 in
theorem str_arg {W : World} {base : Nat} {v : Value} (hok : Value.okWide Tryz.prog W .any base 9 v) : ∃ s, v = .string s := by
  exact okWide_string Tryz.underlying9 hok
end Go.Proofs.YtmihnakapnoefaaGreatDoor
