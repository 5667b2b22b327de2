/-
  Requests' laws: the table of the row's condition; arguments that are requests.
-/
import Derived.Test.YtdbeokldpdgjmaaDoorReqL
import Derived.Test.YtdbeokldpdgjmaaDoorReqK
import Derived.Test.YtdbeokldpdgjmaaDoorTie
import Derived.Test.YtdbeokldpdgjmaaDoorCards
import Derived.Lib.LaidU8
namespace Go.Proofs.YtdbeokldpdgjmaaDoor
open Go.ChangeShapes Go.WideShapes Go.ChangeAt Go.RowKit Go.WideElems

theorem tabIs_of_reads {P : Program} {W : World} {name : String} {k : IntKind} {zs : List Int} {g : Nat} {t e : TypeId} {n : Nat}
    (hg : P.globalNamed name = some g) (hty : (P.globals[g]?).map (·.type) = some t) (ht : P.underlying t = some (.array n e)) (he : P.underlying e = some (.int k)) (hce : P.cellsOf e = 1) (hct : P.cellsOf t = n)
    (h : Lib.VarReads P W name (Lib.tabData k zs)) : Lib.TabIs P W name k zs := by
  obtain ⟨g', t', cs, fuel, p, hg', ht', hvar, hd⟩ := h
  obtain rfl := Option.some.inj (hg.symm.trans hg')
  obtain rfl := Option.some.inj (hty.symm.trans ht')
  unfold Lib.TabIs
  rw [hvar, ← Lib.cells_of_tab ht he hce hct hd]

def laidAll : List (String × DataW Unit) := [("math/bits.deBruijn32tab", Rows.laid_math_bits_deBruijn32tab), ("math/bits.deBruijn64tab", Rows.laid_math_bits_deBruijn64tab), ("internal/strconv.uint64pow10", Rows.laid_internal_strconv_uint64pow10), ("unicode/utf8.acceptRanges", Rows.laid_unicode_utf8_acceptRanges), ("unicode/utf8.first", Rows.laid_unicode_utf8_first)]
theorem tab_of_laid {W : World} (h : laidMetH Tryd.prog laidAll W) : Lib.TabIs Tryd.prog W "internal/strconv.uint64pow10" .u64 Lib.pow10Tab := by
  rw [MakeChecks.laidMetH_plain _ _ _ (by kernel_rfl)] at h
  have h1 := Lib.laidMet.reads h (n := "internal/strconv.uint64pow10") (d := Rows.laid_internal_strconv_uint64pow10) (.tail _ (.tail _ (.head _)))
  have e : (Rows.laid_internal_strconv_uint64pow10 : DataW Unit) = Lib.tabData .u64 Lib.pow10Tab := rfl
  rw [e] at h1
  exact tabIs_of_reads (g := 1) (t := 92) (e := 85) (n := 20) (by kernel_rfl) (by kernel_rfl) (by kernel_rfl) (by kernel_rfl) (by kernel_rfl) (by kernel_rfl) h1

theorem req_of {W : World} {cs : List Value} (h : Rd Tryd.prog W 23 cs) : ∃ kd k v, cs = [.int .i64 kd, .string k, .string v] := by
  obtain ⟨hl, hf⟩ := rd_struct Tryd.underlying23 h
  have h3 : Tryd.prog.cellsOf 23 = 3 := by kernel_rfl
  have h1 : Tryd.prog.cellsOf 3 = 1 := by kernel_rfl
  have h2 : Tryd.prog.cellsOf 9 = 1 := by kernel_rfl
  rw [h3] at hl
  match cs, hl with
  | [a, b, c], _ =>
    have f0 : Rd Tryd.prog W 3 (([a, b, c].drop 0).take (Tryd.prog.cellsOf 3)) := hf 0 _ rfl
    have f1 : Rd Tryd.prog W 9 (([a, b, c].drop 1).take (Tryd.prog.cellsOf 9)) := hf 1 _ rfl
    have f2 : Rd Tryd.prog W 9 (([a, b, c].drop 2).take (Tryd.prog.cellsOf 9)) := hf 2 _ rfl
    rw [h1] at f0
    rw [h2] at f1 f2
    change Rd Tryd.prog W 3 [a] at f0
    change Rd Tryd.prog W 9 [b] at f1
    change Rd Tryd.prog W 9 [c] at f2
    obtain ⟨d, e0, -⟩ := rd_int Tryd.underlying3 f0
    obtain ⟨s, e1, -⟩ := rd_string Tryd.underlying9 f1
    obtain ⟨v, e2, -⟩ := rd_string Tryd.underlying9 f2
    simp only [List.cons.injEq, and_true] at e0 e1 e2
    exact ⟨d, s, v, by rw [e0, e1, e2]⟩
theorem req_arg {W : World} {base : Nat} {v : Value} (hok : Value.okWide Tryd.prog W .any base 23 v) (h : Rd Tryd.prog W 23 v.cells.toList) : ∃ kd k u, v = .agg #[.int .i64 kd, .string k, .string u] := by
  obtain ⟨cs, rfl, -⟩ := okWide_struct Tryd.underlying23 hok
  obtain ⟨kd, k, u, e⟩ := req_of h
  refine ⟨kd, k, u, ?_⟩
  have e' : cs.toList = [.int .i64 kd, .string k, .string u] := e
  rw [← Array.toArray_toList (xs := cs), e']
theorem str_arg {W : World} {base : Nat} {v : Value} (hok : Value.okWide Tryd.prog W .any base 9 v) : ∃ s, v = .string s := by
  exact okWide_string Tryd.underlying9 hok
theorem flat_strs : ∀ xs : List ByteArray, xs.flatMap (fun a => [Value.string a]) = xs.map Value.string
  | [] => rfl
  | x :: xs => by rw [List.flatMap_cons, flat_strs xs]; rfl
theorem strs_of {W : World} {cs : List Value} (h : Rd Tryd.prog W 34 cs) : ∃ (xs : List ByteArray) (v : Value), cs = [v] ∧ SliceAt W.heap.size W v 1 xs.length (xs.map Value.string) ∧ xs.length ≤ maxLen := by
  have h1 : Tryd.prog.cellsOf 9 = 1 := by kernel_rfl
  obtain ⟨xs, v, e, hs, -⟩ := rd_list Tryd.underlying34 h (fun a : ByteArray => [Value.string a]) 1 h1 (by decide) (fun _ => rfl) (fun _ => True) (fun es he => by
    obtain ⟨s, e, -⟩ := rd_string Tryd.underlying9 he
    exact ⟨s, e, trivial⟩)
  rw [flat_strs] at hs
  obtain ⟨av, len, cap, e2, hlc, hcm, -⟩ := rd_slice Tryd.underlying34 (by rw [h1]; decide) h
  have hs2 := hs
  obtain ⟨-, av', cap', hv, -⟩ := hs2
  refine ⟨xs, v, e, hs, ?_⟩
  rw [e, hv] at e2
  simp only [List.cons.injEq, Value.slice.injEq, and_true] at e2
  omega
theorem resp_arg {W : World} {base : Nat} {v : Value} (hok : Value.okWide Tryd.prog W .any base 36 v) (h : Rd Tryd.prog W 36 v.cells.toList) :
    ∃ (code : Int) (s : ByteArray) (ks : List ByteArray) (kv : Value), v = .agg #[.int .i64 code, .string s, kv] ∧ code ≤ 9223372036854775807 ∧ SliceAt W.heap.size W kv 1 ks.length (ks.map Value.string) ∧ ks.length ≤ maxLen := by
  obtain ⟨cs, rfl, -⟩ := okWide_struct Tryd.underlying36 hok
  have h' : Rd Tryd.prog W 36 cs.toList := h
  obtain ⟨hl, hf⟩ := rd_struct Tryd.underlying36 h'
  have h3 : Tryd.prog.cellsOf 36 = 3 := by kernel_rfl
  have h1 : Tryd.prog.cellsOf 25 = 1 := by kernel_rfl
  have h2 : Tryd.prog.cellsOf 9 = 1 := by kernel_rfl
  have h4 : Tryd.prog.cellsOf 34 = 1 := by kernel_rfl
  rw [h3] at hl
  obtain ⟨l, hlc⟩ : ∃ l, l = cs.toList := ⟨_, rfl⟩
  rw [← hlc] at hl hf
  match l, hl with
  | [a, b, c], _ =>
    have f0 : Rd Tryd.prog W 25 (([a, b, c].drop 0).take (Tryd.prog.cellsOf 25)) := hf 0 _ rfl
    have f1 : Rd Tryd.prog W 9 (([a, b, c].drop 1).take (Tryd.prog.cellsOf 9)) := hf 1 _ rfl
    have f2 : Rd Tryd.prog W 34 (([a, b, c].drop 2).take (Tryd.prog.cellsOf 34)) := hf 2 _ rfl
    rw [h1] at f0
    rw [h2] at f1
    rw [h4] at f2
    change Rd Tryd.prog W 25 [a] at f0
    change Rd Tryd.prog W 9 [b] at f1
    change Rd Tryd.prog W 34 [c] at f2
    obtain ⟨d, e0, wf⟩ := rd_int Tryd.underlying25 f0
    obtain ⟨s, e1, -⟩ := rd_string Tryd.underlying9 f1
    obtain ⟨xs, kv, e2, hs, hlen⟩ := strs_of f2
    simp only [List.cons.injEq, and_true] at e0 e1 e2
    refine ⟨d, s, xs, kv, ?_, ?_, hs, hlen⟩
    · rw [← Array.toArray_toList (xs := cs), ← hlc, e0, e1, e2]
    · simp [Lit.wf, IntKind.min, IntKind.max, IntKind.signed, IntKind.bits] at wf; omega
theorem int_arg {W : World} {base : Nat} {v : Value} (hok : Value.okWide Tryd.prog W .any base 3 v) : ∃ n, v = .int .i64 n := by
  exact okWide_int Tryd.underlying3 hok
end Go.Proofs.YtdbeokldpdgjmaaDoor
