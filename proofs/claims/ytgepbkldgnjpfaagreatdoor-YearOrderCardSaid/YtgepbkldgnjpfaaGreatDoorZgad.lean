/- Out of: LdY Yr0. -/
import Derived.Test.YtgepbkldgnjpfaaGreatDoorRows
import Derived.Test.YtgepbkldgnjpfaaGreatDoorZgb
import Derived.Test.YtgepbkldgnjpfaaGreatDoorZgm
import Derived.Test.YtgepbkldgnjpfaaGreatDoorZgac
import Derived.ChangeSame
import Derived.Deep.Fields
import Derived.Deep.Slices
import Derived.Handed
import Derived.LaidMore
import Derived.Lay
import Derived.Lib.LaidTab
import Derived.Lib.SmallJoins
import Derived.OpenShut
import Derived.ProofKit
import Derived.Shelf.Vars
import Derived.SizedLaws
import Derived.Stop.Joined
import Derived.Stop.LaidErr
/- From the row's listed variables, the world's shape and the arguments' sizes to what the walks ask; months that came in (gen/mkldy.py). -/
namespace Go.Proofs.YtgepbkldgnjpfaaGreatDoor
open Go.ChangeShapes Go.WideShapes Go.ChangeAt Go.RowKit Go.Deep

theorem gRange : Tryz.prog.globalNamed "strconv.ErrRange" = some 7 := by kernel_rfl
theorem gRangeT : (Tryz.prog.globals[7]?).map (·.type) = some 251 := by kernel_rfl
theorem starErr : "*" ++ "errors.errorString" = "*errors.errorString" := by decide
theorem rowErr (u : TypeId) (h : Tryz.prog.typeName? 3 u = some "*errors.errorString") : u = 281 :=
  typeName_ptr_named (nm := "errors.errorString") (by rw [starErr]; kernel_rfl) (by kernel_rfl) (by decide) u (by rw [starErr]; exact h)
theorem max_of_shape {W : World} (h : W.ShapedOpen Tryz.prog) : ∃ m, W.cell? ⟨5, 0, none⟩ = some (.int .i64 m) :=
  cell_of_shapedOpen_int (t := 3) (zero := #[.int .i64 0]) (k := .i64) h (of_decide_eq_true (by kernel_rfl)) (by kernel_rfl) rfl (by kernel_rfl) (by kernel_rfl) Tryz.underlying3
theorem err_of_laid {W : World} {l : List (String × DataW Unit)} (h : laidMet Tryz.prog (("strconv.ErrRange", Rows.laid_strconv_ErrRange) :: l) W) : ∃ ev, W.cell? ⟨7, 0, none⟩ = some ev ∧ (ev = .nilIface ∨ ∃ te pe, ev = .iface te pe) := by
  obtain ⟨a, s, hv, _, _, _⟩ := laid_sentinel h gRange gRangeT Tryz.underlying251 rowErr Tryz.underlying281 Tryz.underlying283 rfl rfl Tryz.underlying9 (by kernel_rfl) (by kernel_rfl)
  exact ⟨_, by simpa using World.var?_cell gRange hv 0, .inr ⟨_, _, rfl⟩⟩
abbrev laid28 : List (String × DataW Unit) := Rows.yearNetsRow.laid
theorem var_ltY {P : Program} {W : World} {n : String} {g : Nat} {cs : Array Value} (hg : P.globalNamed n = some g) (h : W.var? P n = some cs) : g < W.heap.size := by
  unfold World.var? at h
  simp only [hg, Option.bind_some] at h
  rcases Nat.lt_or_ge g W.heap.size with hlt | hge
  · exact hlt
  · rw [Array.getElem?_eq_none hge] at h; simp at h
theorem powDataY {H : Type} : (Rows.laid_internal_strconv_uint64pow10 : DataW H) = Lib.tabData .u64 Lib.pow10Tab := rfl
theorem tb_of {W : World} (h : laidMetH Tryz.prog laid28 W) (hs : W.ShapedOpen Tryz.prog) : TbP W := by
  rw [MakeChecks.laidMetH_plain _ _ _ (by kernel_rfl)] at h
  have h1 : laidMet Tryz.prog (("math/bits.deBruijn32tab", Rows.laid_math_bits_deBruijn32tab) :: ("math/bits.deBruijn64tab", Rows.laid_math_bits_deBruijn64tab) :: ("internal/strconv.uint64pow10", Lib.tabData .u64 Lib.pow10Tab) :: ("unicode/utf8.acceptRanges", Rows.laid_unicode_utf8_acceptRanges) :: ("strconv.ErrRange", Rows.laid_strconv_ErrRange) :: ("strconv.ErrSyntax", Rows.laid_strconv_ErrSyntax) :: ("unicode/utf8.first", Rows.laid_unicode_utf8_first) :: []) W := h
  have hp := Lib.tabIs_of_head (g := 0) (t := 208) (e := 172) (n := 20) (by kernel_rfl) (by kernel_rfl) Tryz.underlying208 Tryz.underlying172 (by kernel_rfl) (by kernel_rfl) h1.tail.tail
  exact ⟨⟨max_of_shape hs, err_of_laid h1.tail.tail.tail.tail⟩, hp, var_ltY powAtY hp⟩
/-- A world that holds what is laid. -/
theorem door_met (os : Os) (args : Array Value) : laidMetH Tryz.prog laid28 ((World.laidAll Tryz.prog os laid28).forCall (fun _ _ => 0) ⟨#[], args, []⟩).memory := by
  rw [MakeChecks.laidMetH_plain _ _ _ (by kernel_rfl)]
  exact laidMet_laidAll _ (by kernel_rfl) (by kernel_rfl)
/-- The wrap of a row whose contract is handed what is laid, and the world's shape. -/
theorem returns_laid_sized {H : Type} {enc : TypeId × Value → H} {a : Assume} {C : Checked} {os : Os} {f : FuncId} {fn : Func} {s : ChangeSpec} {conds : List PathCond} {apart fresh handsOn again : Bool} {X : World → Array Value → Prop}
    (hX : ∀ (w w' : World) (args : Array Value), w.heap = w'.heap → X w args → X w' args)
    (own : ownKnob C.prog.godebug = none) (started : os.Started) (noInit : C.prog.inits.idxOf? f = none) (hfn : C.prog.funcs[f]? = some fn)
    (witness : ∃ (w : World) (tape : Tape) (i : Input), w.os = os ∧ (w.forCall tape i).Shaped C.prog ∧ i.vars = [] ∧ Input.okWide C.prog (w.forCall tape i) .any w.heap.size f i ∧
      ((s.pre enc C.prog fn conds apart (w.forCall tape i).memory i.args ∧ X (w.forCall tape i).memory i.args) ∧ sizedMet enc C.prog fn (OpenSpec.ofChange s) apart (w.forCall tape i).memory i.args) ∧ a.holds C.prog (lone (Frame.enter C.prog f i.args .normal) [] (w.forCall tape i)))
    (contract : ∀ (W : World) (base : Nat) (args : Array Value) (ds gs : List (DataW H)) (before : List MemPlace),
      (∀ (j : Nat) t v, fn.params[j]? = some t → args[j]? = some v → Value.okWide C.prog W .any base t v) →
      DataW.Whole enc C.prog fn.params.toList s.vars apart W args.toList ds gs before → X W args → W.ShapedOpen C.prog → sizedMet enc C.prog fn (OpenSpec.ofChange s) apart W args →
      Calls C.prog f args W fun e W' => ∃ v, e = .returned v ∧ s.post enc C.prog fn apart fresh handsOn again W args v W') :
    ReturnsInHanded a C os f .any (fun w args => (s.pre enc C.prog fn conds apart w args ∧ X w args) ∧ sizedMet enc C.prog fn (OpenSpec.ofChange s) apart w args) (s.post enc C.prog fn apart fresh handsOn again) := by
  refine returnsInHanded_of_calls own started noInit witness fun w tape i _ hsh _ hok hpre _ => ?_
  obtain ⟨_, _, _, fn', hfn', _, _, _, _, hval⟩ := hok
  obtain rfl : fn' = fn := Option.some.inj (hfn'.symm.trans hfn)
  obtain ⟨⟨⟨ds, gs, before, hw, _⟩, hx⟩, hsz⟩ := hpre
  exact (contract (w.forCall tape i) w.heap.size i.args ds gs before hval (DataW.Whole.of_heap (w' := w.forCall tape i) (by rfl) hw) (hX _ _ _ (by rfl) hx) hsh (sizedMet.of_heap (w' := w.forCall tape i) (by rfl) hsz)).mono fun e W' ⟨v, he, hp⟩ => by
    subst he
    exact ChangeSpec.post_blind hp
section
variable {H : Type} {enc : TypeId × Value → H} {w : World} {spare : Nat → Bool} {held : Bool}
theorem some_atY {α : Type} {l : List α} {i n : Nat} (h : l.length = n) (hi : i < n) : ∃ x, l[i]? = some x := ⟨_, List.getElem?_eq_getElem (by omega)⟩
theorem fieldsItY : ∃ f0 f1 : Field, Tryz.prog.underlying 65 = some (.struct #[f0, f1]) ∧ oneCellFields Tryz.prog #[f0, f1] = true ∧ f0.type = 9 ∧ f1.type = 28 :=
  ⟨_, _, Tryz.underlying65, by kernel_rfl, rfl, rfl⟩
set_option maxRecDepth 100000 in
theorem trodItY {fuel : Nat} {cs : List Value} {y : DataW H × List MemPlace} (h : DataW.trod enc Tryz.prog w 0 spare held fuel 65 cs = some y) : ∃ z : It, cs = encI z ∧ (fun x : It => x.1.size ≤ 9223372036854775807) z := by
  obtain ⟨f0, f1, he, hone, e0, e1⟩ := fieldsItY
  obtain ⟨xs, n, _, _, hl, hxl, hf⟩ := DataW.trod_struct he h
  have hC : Tryz.prog.cellsOf 65 = 2 := by kernel_rfl
  rw [hC] at hl
  match cs, hl with
  | [q0, q1], _ =>
    have hxl2 : xs.length = 2 := hxl
    obtain ⟨x0, g0⟩ := some_atY hxl2 (i := 0) (by omega)
    have h0 := hf 0 f0 rfl
    obtain ⟨o0, k0⟩ := hone_of hone 0 f0 rfl
    rw [o0, k0, e0, g0] at h0
    obtain ⟨x1, g1⟩ := some_atY hxl2 (i := 1) (by omega)
    have h1 := hf 1 f1 rfl
    obtain ⟨o1, k1⟩ := hone_of hone 1 f1 rfl
    rw [o1, k1, e1, g1] at h1
    obtain ⟨c0, r0, _, w0⟩ := DataW.trod_string Tryz.underlying9 h0
    obtain ⟨c1, r1, _, w1⟩ := DataW.trod_int Tryz.underlying28 h1
    have z0 : q0 = .string c0 := by simpa using r0
    have z1 : q1 = .int .i64 c1 := by simpa using r1
    exact ⟨(c0, c1), by rw [z0, z1]; rfl, w0⟩
theorem fieldsLimY : ∃ f0 f1 f2 : Field, Tryz.prog.underlying 136 = some (.struct #[f0, f1, f2]) ∧ oneCellFields Tryz.prog #[f0, f1, f2] = true ∧ f0.type = 9 ∧ f1.type = 55 ∧ f2.type = 28 :=
  ⟨_, _, _, Tryz.underlying136, by kernel_rfl, rfl, rfl, rfl⟩
set_option maxRecDepth 100000 in
theorem trodLimY {fuel : Nat} {cs : List Value} {y : DataW H × List MemPlace} (h : DataW.trod enc Tryz.prog w 0 spare held fuel 136 cs = some y) : ∃ z : Lim, cs = encL z ∧ (fun x : Lim => x.1.size ≤ 9223372036854775807) z := by
  obtain ⟨f0, f1, f2, he, hone, e0, e1, e2⟩ := fieldsLimY
  obtain ⟨xs, n, _, _, hl, hxl, hf⟩ := DataW.trod_struct he h
  have hC : Tryz.prog.cellsOf 136 = 3 := by kernel_rfl
  rw [hC] at hl
  match cs, hl with
  | [q0, q1, q2], _ =>
    have hxl2 : xs.length = 3 := hxl
    obtain ⟨x0, g0⟩ := some_atY hxl2 (i := 0) (by omega)
    have h0 := hf 0 f0 rfl
    obtain ⟨o0, k0⟩ := hone_of hone 0 f0 rfl
    rw [o0, k0, e0, g0] at h0
    obtain ⟨x1, g1⟩ := some_atY hxl2 (i := 1) (by omega)
    have h1 := hf 1 f1 rfl
    obtain ⟨o1, k1⟩ := hone_of hone 1 f1 rfl
    rw [o1, k1, e1, g1] at h1
    obtain ⟨x2, g2⟩ := some_atY hxl2 (i := 2) (by omega)
    have h2 := hf 2 f2 rfl
    obtain ⟨o2, k2⟩ := hone_of hone 2 f2 rfl
    rw [o2, k2, e2, g2] at h2
    obtain ⟨c0, r0, _, w0⟩ := DataW.trod_string Tryz.underlying9 h0
    obtain ⟨c1, r1, _, w1⟩ := DataW.trod_int Tryz.underlying55 h1
    obtain ⟨c2, r2, _, w2⟩ := DataW.trod_int Tryz.underlying28 h2
    have z0 : q0 = .string c0 := by simpa using r0
    have z1 : q1 = .int .i64 c1 := by simpa using r1
    have z2 : q2 = .int .i64 c2 := by simpa using r2
    exact ⟨(c0, c1, c2), by rw [z0, z1, z2]; rfl, w0⟩
theorem fieldsSchY : ∃ f0 f1 f2 f3 : Field, Tryz.prog.underlying 57 = some (.struct #[f0, f1, f2, f3]) ∧ oneCellFields Tryz.prog #[f0, f1, f2, f3] = true ∧ f0.type = 9 ∧ f1.type = 55 ∧ f2.type = 55 ∧ f3.type = 28 :=
  ⟨_, _, _, _, Tryz.underlying57, by kernel_rfl, rfl, rfl, rfl, rfl⟩
set_option maxRecDepth 100000 in
theorem trodSchY {fuel : Nat} {cs : List Value} {y : DataW H × List MemPlace} (h : DataW.trod enc Tryz.prog w 0 spare held fuel 57 cs = some y) : ∃ z : Sch, cs = encH z ∧ (fun x : Sch => x.1.size ≤ 9223372036854775807) z := by
  obtain ⟨f0, f1, f2, f3, he, hone, e0, e1, e2, e3⟩ := fieldsSchY
  obtain ⟨xs, n, _, _, hl, hxl, hf⟩ := DataW.trod_struct he h
  have hC : Tryz.prog.cellsOf 57 = 4 := by kernel_rfl
  rw [hC] at hl
  match cs, hl with
  | [q0, q1, q2, q3], _ =>
    have hxl2 : xs.length = 4 := hxl
    obtain ⟨x0, g0⟩ := some_atY hxl2 (i := 0) (by omega)
    have h0 := hf 0 f0 rfl
    obtain ⟨o0, k0⟩ := hone_of hone 0 f0 rfl
    rw [o0, k0, e0, g0] at h0
    obtain ⟨x1, g1⟩ := some_atY hxl2 (i := 1) (by omega)
    have h1 := hf 1 f1 rfl
    obtain ⟨o1, k1⟩ := hone_of hone 1 f1 rfl
    rw [o1, k1, e1, g1] at h1
    obtain ⟨x2, g2⟩ := some_atY hxl2 (i := 2) (by omega)
    have h2 := hf 2 f2 rfl
    obtain ⟨o2, k2⟩ := hone_of hone 2 f2 rfl
    rw [o2, k2, e2, g2] at h2
    obtain ⟨x3, g3⟩ := some_atY hxl2 (i := 3) (by omega)
    have h3 := hf 3 f3 rfl
    obtain ⟨o3, k3⟩ := hone_of hone 3 f3 rfl
    rw [o3, k3, e3, g3] at h3
    obtain ⟨c0, r0, _, w0⟩ := DataW.trod_string Tryz.underlying9 h0
    obtain ⟨c1, r1, _, w1⟩ := DataW.trod_int Tryz.underlying55 h1
    obtain ⟨c2, r2, _, w2⟩ := DataW.trod_int Tryz.underlying55 h2
    obtain ⟨c3, r3, _, w3⟩ := DataW.trod_int Tryz.underlying28 h3
    have z0 : q0 = .string c0 := by simpa using r0
    have z1 : q1 = .int .i64 c1 := by simpa using r1
    have z2 : q2 = .int .i64 c2 := by simpa using r2
    have z3 : q3 = .int .i64 c3 := by simpa using r3
    exact ⟨(c0, c1, c2, c3), by rw [z0, z1, z2, z3]; rfl, w0⟩
theorem fieldsBandY : ∃ f0 f1 : Field, Tryz.prog.underlying 221 = some (.struct #[f0, f1]) ∧ oneCellFields Tryz.prog #[f0, f1] = true ∧ f0.type = 28 ∧ f1.type = 55 :=
  ⟨_, _, Tryz.underlying221, by kernel_rfl, rfl, rfl⟩
set_option maxRecDepth 100000 in
theorem trodBandY {fuel : Nat} {cs : List Value} {y : DataW H × List MemPlace} (h : DataW.trod enc Tryz.prog w 0 spare held fuel 221 cs = some y) : ∃ z : (Int × Int), cs = Tx.encBand z ∧ (fun _ : Int × Int => True) z := by
  obtain ⟨f0, f1, he, hone, e0, e1⟩ := fieldsBandY
  obtain ⟨xs, n, _, _, hl, hxl, hf⟩ := DataW.trod_struct he h
  have hC : Tryz.prog.cellsOf 221 = 2 := by kernel_rfl
  rw [hC] at hl
  match cs, hl with
  | [q0, q1], _ =>
    have hxl2 : xs.length = 2 := hxl
    obtain ⟨x0, g0⟩ := some_atY hxl2 (i := 0) (by omega)
    have h0 := hf 0 f0 rfl
    obtain ⟨o0, k0⟩ := hone_of hone 0 f0 rfl
    rw [o0, k0, e0, g0] at h0
    obtain ⟨x1, g1⟩ := some_atY hxl2 (i := 1) (by omega)
    have h1 := hf 1 f1 rfl
    obtain ⟨o1, k1⟩ := hone_of hone 1 f1 rfl
    rw [o1, k1, e1, g1] at h1
    obtain ⟨c0, r0, _, w0⟩ := DataW.trod_int Tryz.underlying28 h0
    obtain ⟨c1, r1, _, w1⟩ := DataW.trod_int Tryz.underlying55 h1
    have z0 : q0 = .int .i64 c0 := by simpa using r0
    have z1 : q1 = .int .i64 c1 := by simpa using r1
    exact ⟨(c0, c1), by rw [z0, z1]; rfl, trivial⟩
theorem fieldsOdY : ∃ f0 f1 f2 f3 f4 f5 : Field, Tryz.prog.underlying 61 = some (.struct #[f0, f1, f2, f3, f4, f5]) ∧ oneCellFields Tryz.prog #[f0, f1, f2, f3, f4, f5] = true ∧ f0.type = 9 ∧ f1.type = 3 ∧ f2.type = 55 ∧ f3.type = 28 ∧ f4.type = 28 ∧ f5.type = 28 :=
  ⟨_, _, _, _, _, _, Tryz.underlying61, by kernel_rfl, rfl, rfl, rfl, rfl, rfl, rfl⟩
set_option maxRecDepth 100000 in
theorem trodOdY {fuel : Nat} {cs : List Value} {y : DataW H × List MemPlace} (h : DataW.trod enc Tryz.prog w 0 spare held fuel 61 cs = some y) : ∃ z : Od, cs = encO z ∧ (fun x : Od => x.co.size ≤ 9223372036854775807) z := by
  obtain ⟨f0, f1, f2, f3, f4, f5, he, hone, e0, e1, e2, e3, e4, e5⟩ := fieldsOdY
  obtain ⟨xs, n, _, _, hl, hxl, hf⟩ := DataW.trod_struct he h
  have hC : Tryz.prog.cellsOf 61 = 6 := by kernel_rfl
  rw [hC] at hl
  match cs, hl with
  | [q0, q1, q2, q3, q4, q5], _ =>
    have hxl2 : xs.length = 6 := hxl
    obtain ⟨x0, g0⟩ := some_atY hxl2 (i := 0) (by omega)
    have h0 := hf 0 f0 rfl
    obtain ⟨o0, k0⟩ := hone_of hone 0 f0 rfl
    rw [o0, k0, e0, g0] at h0
    obtain ⟨x1, g1⟩ := some_atY hxl2 (i := 1) (by omega)
    have h1 := hf 1 f1 rfl
    obtain ⟨o1, k1⟩ := hone_of hone 1 f1 rfl
    rw [o1, k1, e1, g1] at h1
    obtain ⟨x2, g2⟩ := some_atY hxl2 (i := 2) (by omega)
    have h2 := hf 2 f2 rfl
    obtain ⟨o2, k2⟩ := hone_of hone 2 f2 rfl
    rw [o2, k2, e2, g2] at h2
    obtain ⟨x3, g3⟩ := some_atY hxl2 (i := 3) (by omega)
    have h3 := hf 3 f3 rfl
    obtain ⟨o3, k3⟩ := hone_of hone 3 f3 rfl
    rw [o3, k3, e3, g3] at h3
    obtain ⟨x4, g4⟩ := some_atY hxl2 (i := 4) (by omega)
    have h4 := hf 4 f4 rfl
    obtain ⟨o4, k4⟩ := hone_of hone 4 f4 rfl
    rw [o4, k4, e4, g4] at h4
    obtain ⟨x5, g5⟩ := some_atY hxl2 (i := 5) (by omega)
    have h5 := hf 5 f5 rfl
    obtain ⟨o5, k5⟩ := hone_of hone 5 f5 rfl
    rw [o5, k5, e5, g5] at h5
    obtain ⟨c0, r0, _, w0⟩ := DataW.trod_string Tryz.underlying9 h0
    obtain ⟨c1, r1, _, w1⟩ := DataW.trod_int Tryz.underlying3 h1
    obtain ⟨c2, r2, _, w2⟩ := DataW.trod_int Tryz.underlying55 h2
    obtain ⟨c3, r3, _, w3⟩ := DataW.trod_int Tryz.underlying28 h3
    obtain ⟨c4, r4, _, w4⟩ := DataW.trod_int Tryz.underlying28 h4
    obtain ⟨c5, r5, _, w5⟩ := DataW.trod_int Tryz.underlying28 h5
    have z0 : q0 = .string c0 := by simpa using r0
    have z1 : q1 = .int .i64 c1 := by simpa using r1
    have z2 : q2 = .int .i64 c2 := by simpa using r2
    have z3 : q3 = .int .i64 c3 := by simpa using r3
    have z4 : q4 = .int .i64 c4 := by simpa using r4
    have z5 : q5 = .int .i64 c5 := by simpa using r5
    exact ⟨⟨c0, c1, c2, c3, c4, c5⟩, by rw [z0, z1, z2, z3, z4, z5]; rfl, w0⟩

instance itNonempty : Inhabited It := ⟨(ByteArray.empty, 0)⟩
instance limNonempty : Inhabited Lim := ⟨(ByteArray.empty, 0, 0)⟩
instance schNonempty : Inhabited Sch := ⟨(ByteArray.empty, 0, 0, 0)⟩
instance odNonempty : Inhabited Od := ⟨⟨ByteArray.empty, 0, 0, 0, 0, 0⟩⟩
set_option maxRecDepth 100000 in
/-- A slice, opened: what its elements read as, and its datum. -/
theorem open_rowsY {α : Type} [Inhabited α] {cells : α → List Value} {k : Nat} {ok : α → Prop} {t e : TypeId} {fuel : Nat} {cs : List Value} {x : DataW H × List MemPlace} (hk : ∀ y, (cells y).length = k) (hk0 : 0 < k)
    (ht : Tryz.prog.underlying t = some (.slice e)) (hC : Tryz.prog.cellsOf e = k) (hE : ∀ fuel cs y, DataW.trod enc Tryz.prog w 0 spare held fuel e cs = some y → ∃ z, cs = cells z ∧ ok z)
    (hf : DataW.trod enc Tryz.prog w 0 spare held fuel t cs = some x) :
    ∃ (A : Option Addr) (cap : Nat) (L : List α), cs = [.slice A L.length cap] ∧ (∀ z ∈ L, ok z) ∧ Sl cells k w w.heap.size A L ∧ (L = [] ∨ ∃ es sp, x.1 = .slice es sp ∧ es.length = L.length) := by
  rcases open_slice ht hf with ⟨hc, _⟩ | ⟨a, len, cap', m, n, D, Pl, hc, _, hl, hm, hmm, hx, hi⟩
  · exact ⟨none, 0, [], hc, fun _ h => absurd h (List.not_mem_nil), fun h => absurd rfl h, .inl rfl⟩
  · subst hc
    have hlm : len ≤ m := by rw [hmm]; split <;> omega
    have key : ∀ i, i < len → ∃ z : α, ok z ∧ ∀ j u, (cells z)[j]? = some u → w.cell? (a.add (i * k + j)) = some u := by
      intro i hil
      obtain ⟨cs', hcs, htr⟩ := hi i (by omega)
      obtain ⟨z, rfl, hz⟩ := hE _ _ _ htr
      rw [hC] at hcs
      obtain ⟨_, hcl, hat⟩ := World.cells?_some hcs
      refine ⟨z, hz, fun j u hu => ?_⟩
      have hj : j < k := by have := (List.getElem?_eq_some_iff.1 hu).1; rwa [hk] at this
      have h1 := hat j hj
      rw [hu] at h1
      rw [← h1, ← Go.Deep.add_add]
    obtain ⟨f, hf⟩ := Go.Deep.choose_lt (α := α) key
    refine ⟨some a, cap', (List.range len).map f, by simp, ?_, ?_, .inr ⟨_, _, by rw [hx], by simp⟩⟩
    · intro x hx
      obtain ⟨i, hi', rfl⟩ := List.mem_map.1 hx
      exact (hf i (List.mem_range.1 hi')).1
    · intro hne
      have h0' : 0 < len := by
        rcases Nat.eq_zero_or_pos len with rfl | h
        · simp at hne
        · exact h
      obtain ⟨u0, hu0⟩ : ∃ u, (cells (f 0))[0]? = some u := ⟨_, List.getElem?_eq_getElem (by rw [hk]; exact hk0)⟩
      have c0 := (hf 0 h0').2 0 _ hu0
      obtain ⟨b, off, spot⟩ := a
      have hspot : spot = none := by simpa [Addr.add] using World.cell?_spot c0
      subst hspot
      refine ⟨b, off, rfl, by simpa [Addr.add] using World.block_lt_of_cell? w _ c0, fun i x hx j u hu => ?_⟩
      have hil : i < len := by have := (List.getElem?_eq_some_iff.1 hx).1; simpa using this
      have hxx : x = f i := by simpa [hil] using hx.symm
      subst hxx
      have c := (hf i hil).2 j u hu
      rw [add_plain] at c
      simpa [Nat.add_assoc] using c
theorem weights_mem_allY {P : Program} {e : TypeId} : ∀ {l : List (DataW H)} {d : DataW H}, d ∈ l → ∀ n ∈ d.weights P e, n ∈ DataW.weightsAll P e l
  | x :: r, d, hd, n, hn => by
    unfold DataW.weightsAll
    rw [List.mem_append]
    rcases List.mem_cons.1 hd with rfl | hd
    · exact .inl hn
    · exact .inr (weights_mem_allY hd n hn)
theorem slice_weight {t e : TypeId} {d : DataW H} {n : Nat} (ht : Tryz.prog.underlying t = some (.slice e)) (hb : 0 < Tryz.prog.bytesOf e) (hd : n = 0 ∨ ∃ es sp, d = .slice es sp ∧ es.length = n) (hw : ∀ m ∈ d.weights Tryz.prog t, m ≤ reachBytes) : n ≤ 140737488351232 := by
  rcases hd with rfl | ⟨es, sp, rfl, rfl⟩
  · omega
  · have h := hw ((es.length + sp.length) * Tryz.prog.bytesOf e) (by
      unfold DataW.weights
      rw [ht]
      exact List.mem_cons_self ..)
    rw [show reachBytes = 140737488351232 from rfl] at h
    have h2 : es.length * 1 ≤ (es.length + sp.length) * Tryz.prog.bytesOf e := Nat.mul_le_mul (Nat.le_add_right _ _) hb
    omega
theorem field_weights {t : TypeId} {fs : Array Field} {ds : List (DataW H)} {j : Nat} {f : Field} {d : DataW H} (ht : Tryz.prog.underlying t = some (.struct fs)) (hf : fs[j]? = some f) (hd : ds[j]? = some d) (hw : ∀ m ∈ (DataW.agg ds).weights Tryz.prog t, m ≤ reachBytes) : ∀ m ∈ d.weights Tryz.prog f.type, m ≤ reachBytes := fun m hm => hw m (by
  unfold DataW.weights
  rw [ht]
  exact DataW.weights_mem_each (j := j) (t := f.type) (d := d) (by simp [hf]) hd _ hm)
theorem fieldsMoY : ∃ f0 f1 f2 f3 f4 f5 f6 f7 f8 f9 : Field, Tryz.prog.underlying 54 = some (.struct #[f0, f1, f2, f3, f4, f5, f6, f7, f8, f9]) ∧ (f0.type = 3 ∧ f0.offset = 0) ∧ (f1.type = 3 ∧ f1.offset = 1) ∧ (f2.type = 3 ∧ f2.offset = 2) ∧ (f3.type = 46 ∧ f3.offset = 3) ∧ (f4.type = 46 ∧ f4.offset = 4) ∧ (f5.type = 46 ∧ f5.offset = 5) ∧ (f6.type = 47 ∧ f6.offset = 6) ∧ (f7.type = 48 ∧ f7.offset = 7) ∧ (f8.type = 51 ∧ f8.offset = 8) ∧ (f9.type = 52 ∧ f9.offset = 11) :=
  ⟨_, _, _, _, _, _, _, _, _, _, Tryz.underlying54, ⟨rfl, rfl⟩, ⟨rfl, rfl⟩, ⟨rfl, rfl⟩, ⟨rfl, rfl⟩, ⟨rfl, rfl⟩, ⟨rfl, rfl⟩, ⟨rfl, rfl⟩, ⟨rfl, rfl⟩, ⟨rfl, rfl⟩, rfl, rfl⟩
theorem fieldsCaY : ∃ f0 f1 f2 : Field, Tryz.prog.underlying 51 = some (.struct #[f0, f1, f2]) ∧ (f0.type = 28 ∧ f0.offset = 0) ∧ (f1.type = 28 ∧ f1.offset = 1) ∧ (f2.type = 49 ∧ f2.offset = 2) :=
  ⟨_, _, _, Tryz.underlying51, ⟨rfl, rfl⟩, ⟨rfl, rfl⟩, rfl, rfl⟩
/-- A month that came in: its cells, its rows, its room. -/
def MoC (w : World) (cs : List Value) (y : DataW H × List MemPlace) (p : Mon × MoA) : Prop := cs = encMo p ∧ ((∀ m ∈ y.1.weights Tryz.prog 54, m ≤ reachBytes) → MoIn p.1 p.2 w)
set_option maxRecDepth 100000 in
set_option maxHeartbeats 1000000 in
theorem trodMoY {fuel : Nat} {cs : List Value} {y : DataW H × List MemPlace} (h : DataW.trod enc Tryz.prog w 0 spare held fuel 54 cs = some y) : ∃ p, MoC w cs y p := by
  obtain ⟨f0, f1, f2, f3, f4, f5, f6, f7, f8, f9, he, ⟨t0, o0⟩, ⟨t1, o1⟩, ⟨t2, o2⟩, ⟨t3, o3⟩, ⟨t4, o4⟩, ⟨t5, o5⟩, ⟨t6, o6⟩, ⟨t7, o7⟩, ⟨t8, o8⟩, ⟨t9, o9⟩⟩ := fieldsMoY
  obtain ⟨c0, c1, c2, hec, ⟨u0, p0⟩, ⟨u1, p1⟩, ⟨u2, p2⟩⟩ := fieldsCaY
  obtain ⟨xs, n, _, hy, hl, hxl, hf⟩ := DataW.trod_struct he h
  have hC : Tryz.prog.cellsOf 54 = 12 := by kernel_rfl
  have hI : Tryz.prog.cellsOf 3 = 1 := by kernel_rfl
  have hCe : Tryz.prog.cellsOf 28 = 1 := by kernel_rfl
  have hS1 : Tryz.prog.cellsOf 46 = 1 := by kernel_rfl
  have hS2 : Tryz.prog.cellsOf 47 = 1 := by kernel_rfl
  have hS3 : Tryz.prog.cellsOf 48 = 1 := by kernel_rfl
  have hS4 : Tryz.prog.cellsOf 52 = 1 := by kernel_rfl
  have hS5 : Tryz.prog.cellsOf 49 = 1 := by kernel_rfl
  have hCa : Tryz.prog.cellsOf 51 = 3 := by kernel_rfl
  rw [hC] at hl
  match cs, hl with
  | [q0, q1, q2, q3, q4, q5, q6, q7, q8, q9, q10, q11], _ =>
    have hxl2 : xs.length = 10 := hxl
    obtain ⟨x0, g0⟩ := some_atY hxl2 (i := 0) (by omega)
    have h0 := hf 0 f0 rfl
    rw [o0, t0, g0] at h0
    obtain ⟨x1, g1⟩ := some_atY hxl2 (i := 1) (by omega)
    have h1 := hf 1 f1 rfl
    rw [o1, t1, g1] at h1
    obtain ⟨x2, g2⟩ := some_atY hxl2 (i := 2) (by omega)
    have h2 := hf 2 f2 rfl
    rw [o2, t2, g2] at h2
    obtain ⟨x3, g3⟩ := some_atY hxl2 (i := 3) (by omega)
    have h3 := hf 3 f3 rfl
    rw [o3, t3, g3] at h3
    obtain ⟨x4, g4⟩ := some_atY hxl2 (i := 4) (by omega)
    have h4 := hf 4 f4 rfl
    rw [o4, t4, g4] at h4
    obtain ⟨x5, g5⟩ := some_atY hxl2 (i := 5) (by omega)
    have h5 := hf 5 f5 rfl
    rw [o5, t5, g5] at h5
    obtain ⟨x6, g6⟩ := some_atY hxl2 (i := 6) (by omega)
    have h6 := hf 6 f6 rfl
    rw [o6, t6, g6] at h6
    obtain ⟨x7, g7⟩ := some_atY hxl2 (i := 7) (by omega)
    have h7 := hf 7 f7 rfl
    rw [o7, t7, g7] at h7
    obtain ⟨x8, g8⟩ := some_atY hxl2 (i := 8) (by omega)
    have h8 := hf 8 f8 rfl
    rw [o8, t8, g8] at h8
    obtain ⟨x9, g9⟩ := some_atY hxl2 (i := 9) (by omega)
    have h9 := hf 9 f9 rfl
    rw [o9, t9, g9] at h9
    rw [hI] at h0 h1 h2
    rw [hS1] at h3 h4 h5
    rw [hS2] at h6
    rw [hS3] at h7
    rw [hCa] at h8
    rw [hS4] at h9
    obtain ⟨xs2, n2, _, hy2, hl2, hxl3, hf2⟩ := DataW.trod_struct hec h8
    have hxl4 : xs2.length = 3 := hxl3
    obtain ⟨v0, k0⟩ := some_atY hxl4 (i := 0) (by omega)
    obtain ⟨v1, k1⟩ := some_atY hxl4 (i := 1) (by omega)
    obtain ⟨v2, k2⟩ := some_atY hxl4 (i := 2) (by omega)
    have j0 := hf2 0 c0 rfl
    have j1 := hf2 1 c1 rfl
    have j2 := hf2 2 c2 rfl
    rw [p0, u0, k0, hCe] at j0
    rw [p1, u1, k1, hCe] at j1
    rw [p2, u2, k2, hS5] at j2
    obtain ⟨a0, r0, _, _⟩ := DataW.trod_int Tryz.underlying3 h0
    obtain ⟨a1, r1, _, _⟩ := DataW.trod_int Tryz.underlying3 h1
    obtain ⟨a2, r2, _, _⟩ := DataW.trod_int Tryz.underlying3 h2
    obtain ⟨a8, r8, _, _⟩ := DataW.trod_int Tryz.underlying28 j0
    obtain ⟨a9, r9, _, _⟩ := DataW.trod_int Tryz.underlying28 j1
    obtain ⟨Agr, Cgr, Lgr, rgr, okgr, sgr, dgr⟩ := open_rowsY (cells := encI) (k := 2) (ok := fun x : It => x.1.size ≤ 9223372036854775807) (fun _ => rfl) (by omega) Tryz.underlying46 (by kernel_rfl) (fun fuel cs y hy => trodItY hy) h3
    obtain ⟨Abe, Cbe, Lbe, rbe, okbe, sbe, dbe⟩ := open_rowsY (cells := encI) (k := 2) (ok := fun x : It => x.1.size ≤ 9223372036854775807) (fun _ => rfl) (by omega) Tryz.underlying46 (by kernel_rfl) (fun fuel cs y hy => trodItY hy) h4
    obtain ⟨Aaf, Caf, Laf, raf, okaf, saf, daf⟩ := open_rowsY (cells := encI) (k := 2) (ok := fun x : It => x.1.size ≤ 9223372036854775807) (fun _ => rfl) (by omega) Tryz.underlying46 (by kernel_rfl) (fun fuel cs y hy => trodItY hy) h5
    obtain ⟨Ali, Cli, Lli, rli, okli, sli, dli⟩ := open_rowsY (cells := encL) (k := 3) (ok := fun x : Lim => x.1.size ≤ 9223372036854775807) (fun _ => rfl) (by omega) Tryz.underlying47 (by kernel_rfl) (fun fuel cs y hy => trodLimY hy) h6
    obtain ⟨Asc, Csc, Lsc, rsc, oksc, ssc, dsc⟩ := open_rowsY (cells := encH) (k := 4) (ok := fun x : Sch => x.1.size ≤ 9223372036854775807) (fun _ => rfl) (by omega) Tryz.underlying48 (by kernel_rfl) (fun fuel cs y hy => trodSchY hy) h7
    obtain ⟨Aod, Cod, Lod, rod, okod, sod, dod⟩ := open_rowsY (cells := encO) (k := 6) (ok := fun x : Od => x.co.size ≤ 9223372036854775807) (fun _ => rfl) (by omega) Tryz.underlying52 (by kernel_rfl) (fun fuel cs y hy => trodOdY hy) h9
    obtain ⟨Aba, Cba, Lba, rba, okba, sba, dba⟩ := open_rowsY (cells := Tx.encBand) (k := 2) (ok := fun _ : Int × Int => True) (fun _ => rfl) (by omega) Tryz.underlying49 (by kernel_rfl) (fun fuel cs y hy => trodBandY hy) j2
    have z0 : q0 = .int .i64 a0 := by simpa using r0
    have z1 : q1 = .int .i64 a1 := by simpa using r1
    have z2 : q2 = .int .i64 a2 := by simpa using r2
    have z3 : q3 = .slice Agr Lgr.length Cgr := by simpa using rgr
    have z4 : q4 = .slice Abe Lbe.length Cbe := by simpa using rbe
    have z5 : q5 = .slice Aaf Laf.length Caf := by simpa using raf
    have z6 : q6 = .slice Ali Lli.length Cli := by simpa using rli
    have z7 : q7 = .slice Asc Lsc.length Csc := by simpa using rsc
    have z8 : q8 = .int .i64 a8 := by simpa using r8
    have z9 : q9 = .int .i64 a9 := by simpa using r9
    have z10 : q10 = .slice Aba Lba.length Cba := by simpa using rba
    have z11 : q11 = .slice Aod Lod.length Cod := by simpa using rod
    refine ⟨(⟨a0, a1, a2, Lgr, Lbe, Laf, Lli, Lsc, a8, a9, Lba, Lod⟩, ⟨(Agr, Cgr), (Abe, Cbe), (Aaf, Caf), (Ali, Cli), (Asc, Csc), (Aba, Cba), (Aod, Cod)⟩), by rw [z0, z1, z2, z3, z4, z5, z6, z7, z8, z9, z10, z11]; rfl, fun hw => ?_⟩
    have hw' : ∀ m ∈ (DataW.agg (xs.map (·.1))).weights Tryz.prog 54, m ≤ reachBytes := by rw [hy] at hw; exact hw
    have bgr : Lgr.length ≤ 140737488351232 := slice_weight Tryz.underlying46 (of_decide_eq_true (by kernel_rfl)) (dgr.imp (fun e => by rw [e]; rfl) id) (by have h := field_weights (j := 3) (f := f3) he rfl (by rw [List.getElem?_map, g3]; rfl) hw'; rw [t3] at h; exact h)
    have bbe : Lbe.length ≤ 140737488351232 := slice_weight Tryz.underlying46 (of_decide_eq_true (by kernel_rfl)) (dbe.imp (fun e => by rw [e]; rfl) id) (by have h := field_weights (j := 4) (f := f4) he rfl (by rw [List.getElem?_map, g4]; rfl) hw'; rw [t4] at h; exact h)
    have baf : Laf.length ≤ 140737488351232 := slice_weight Tryz.underlying46 (of_decide_eq_true (by kernel_rfl)) (daf.imp (fun e => by rw [e]; rfl) id) (by have h := field_weights (j := 5) (f := f5) he rfl (by rw [List.getElem?_map, g5]; rfl) hw'; rw [t5] at h; exact h)
    have bli : Lli.length ≤ 140737488351232 := slice_weight Tryz.underlying47 (of_decide_eq_true (by kernel_rfl)) (dli.imp (fun e => by rw [e]; rfl) id) (by have h := field_weights (j := 6) (f := f6) he rfl (by rw [List.getElem?_map, g6]; rfl) hw'; rw [t6] at h; exact h)
    have bsc : Lsc.length ≤ 140737488351232 := slice_weight Tryz.underlying48 (of_decide_eq_true (by kernel_rfl)) (dsc.imp (fun e => by rw [e]; rfl) id) (by have h := field_weights (j := 7) (f := f7) he rfl (by rw [List.getElem?_map, g7]; rfl) hw'; rw [t7] at h; exact h)
    have bod : Lod.length ≤ 140737488351232 := slice_weight Tryz.underlying52 (of_decide_eq_true (by kernel_rfl)) (dod.imp (fun e => by rw [e]; rfl) id) (by have h := field_weights (j := 9) (f := f9) he rfl (by rw [List.getElem?_map, g9]; rfl) hw'; rw [t9] at h; exact h)
    have bba : Lba.length ≤ 140737488351232 := slice_weight Tryz.underlying49 (of_decide_eq_true (by kernel_rfl)) (dba.imp (fun e => by rw [e]; rfl) id) (by
      have h := field_weights (j := 8) (f := f8) he rfl (by rw [List.getElem?_map, g8]; rfl) hw'
      rw [t8] at h
      have h' : ∀ m ∈ (DataW.agg (xs2.map (·.1))).weights Tryz.prog 51, m ≤ reachBytes := by rw [hy2] at h; exact h
      have h2 := field_weights (j := 2) (f := c2) hec rfl (by rw [List.getElem?_map, k2]; rfl) h'
      rw [u2] at h2
      exact h2)
    exact ⟨sgr, sbe, saf, sli, ssc, sba, sod, by unfold moN; dsimp only; omega, okgr, okbe, okaf, okli, oksc, okod⟩
instance moNonempty : Inhabited (Mon × MoA) := ⟨(⟨0, 0, 0, [], [], [], [], [], 0, 0, [], []⟩, ⟨(none, 0), (none, 0), (none, 0), (none, 0), (none, 0), (none, 0), (none, 0)⟩)⟩
set_option maxRecDepth 100000 in
/-- Months that came in. -/
theorem open_monthsC {r : Reach} {b0 : Nat} {v : Value} {d : DataW H} {p : List MemPlace} (hv : Value.okWide Tryz.prog w r b0 22 v) (h : DataW.Trod enc Tryz.prog w 0 spare held 22 v d p) (hw : ∀ m ∈ d.weights Tryz.prog 22, m ≤ reachBytes) :
    ∃ (A : Option Addr) (cap : Nat) (L : List (Mon × MoA)), v = .slice A L.length cap ∧ L.length ≤ 140737488351232 ∧ InMo w A L ∧ L.length ≤ cap ∧ cap ≤ 9223372036854775807 ∧ (A = none → cap = 0) := by
  obtain ⟨a0, len, cap, rfl⟩ := okWide_slice Tryz.underlying22 hv
  obtain ⟨fuel, hf⟩ := h
  rcases open_slice Tryz.underlying22 hf with ⟨hc, _⟩ | ⟨a, len', cap', m, n, D, Pl, hc, _, hl, hm, hmm, hx, hi⟩
  · simp [Value.cells] at hc
    obtain ⟨rfl, rfl, rfl⟩ := hc
    exact ⟨none, 0, [], rfl, by simp, ⟨fun h => absurd rfl h, fun _ h => absurd h (by simp)⟩, Nat.le_refl _, by omega, fun _ => rfl⟩
  · simp [Value.cells] at hc
    obtain ⟨rfl, rfl, rfl⟩ := hc
    injection hx with hx1 hx2
    have hlm : len ≤ m := by rw [hmm]; split <;> omega
    have hlen : len ≤ 140737488351232 := slice_weight (d := d) (n := len) Tryz.underlying22 (of_decide_eq_true (by kernel_rfl)) (.inr ⟨_, _, hx1, by simp⟩) hw
    have hC : Tryz.prog.cellsOf 54 = 12 := by kernel_rfl
    have key : ∀ i, i < len → ∃ z : Mon × MoA, MoIn z.1 z.2 w ∧ ∀ j u, (encMo z)[j]? = some u → w.cell? (a.add (i * 12 + j)) = some u := by
      intro i hil
      obtain ⟨cs', hcs, htr⟩ := hi i (by omega)
      obtain ⟨z, rfl, hz⟩ := trodMoY htr
      rw [hC] at hcs
      obtain ⟨_, hcl, hat⟩ := World.cells?_some hcs
      refine ⟨z, hz fun m hm => hw m ?_, fun j u hu => ?_⟩
      · rw [hx1]
        unfold DataW.weights
        rw [Tryz.underlying22]
        show m ∈ _ :: (DataW.weightsAll Tryz.prog 54 ((List.range len).map D) ++ _)
        refine List.mem_cons_of_mem _ (List.mem_append_left _ (weights_mem_allY (List.mem_map.2 ⟨i, List.mem_range.2 hil, rfl⟩) m hm))
      · have hj : j < 12 := by have := (List.getElem?_eq_some_iff.1 hu).1; rwa [encMo_len] at this
        have h1 := hat j hj
        rw [hu] at h1
        rw [← h1, ← Go.Deep.add_add]
    obtain ⟨f, hf⟩ := Go.Deep.choose_lt (α := Mon × MoA) key
    refine ⟨some a, cap, (List.range len).map f, by simp, by simpa using hlen, ⟨?_, ?_⟩, by simpa using hl, by simpa [maxLen] using hm, fun h => by cases h⟩
    · intro hne
      have h0' : 0 < len := by
        rcases Nat.eq_zero_or_pos len with rfl | h
        · simp at hne
        · exact h
      have c0 := (hf 0 h0').2 0 _ rfl
      obtain ⟨b, off, spot⟩ := a
      have hspot : spot = none := by simpa [Addr.add] using World.cell?_spot c0
      subst hspot
      refine ⟨b, off, rfl, by simpa [Addr.add] using World.block_lt_of_cell? w _ c0, fun i x hx j u hu => ?_⟩
      have hil : i < len := by have := (List.getElem?_eq_some_iff.1 hx).1; simpa using this
      have hxx : x = f i := by simpa [hil] using hx.symm
      subst hxx
      have c := (hf i hil).2 j u hu
      rw [add_plain] at c
      simpa [Nat.add_assoc] using c
    · intro x hx
      obtain ⟨i, hi', rfl⟩ := List.mem_map.1 hx
      exact (hf i (List.mem_range.1 hi')).1
set_option maxRecDepth 100000 in
theorem open_months {r : Reach} {b0 : Nat} {v : Value} {d : DataW H} {p : List MemPlace} (hv : Value.okWide Tryz.prog w r b0 22 v) (h : DataW.Trod enc Tryz.prog w 0 spare held 22 v d p) (hw : ∀ m ∈ d.weights Tryz.prog 22, m ≤ reachBytes) :
    ∃ (A : Option Addr) (cap : Nat) (L : List (Mon × MoA)), v = .slice A L.length cap ∧ L.length ≤ 140737488351232 ∧ InMo w A L := by
  obtain ⟨A, cap, L, h1, h2, h3, _⟩ := open_monthsC hv h hw
  exact ⟨A, cap, L, h1, h2, h3⟩
end
end Go.Proofs.YtgepbkldgnjpfaaGreatDoor

/- slip.sum: what the lines of parts add up to. -/
namespace Go.Proofs.YtgepbkldgnjpfaaGreatDoor
open Go.RowKit Go.Sort Go.BigFrame

def sumQ (f t : Int) : List Li → Int
  | [] => 0
  | x :: r => (if f ≤ x.1 ∧ x.1 ≤ t then x.2.2 else 0) + sumQ f t r
theorem sumQ_cons (f t : Int) (x : Li) (r : List Li) : sumQ f t (x :: r) = (if f ≤ x.1 ∧ x.1 ≤ t then x.2.2 else 0) + sumQ f t r := rfl
theorem sumQ_bd (f t : Int) : ∀ l : List Li, (∀ x ∈ l, fitB x.2.2 = true) → -(l.length * 1125899906842624 : Int) ≤ sumQ f t l ∧ sumQ f t l ≤ l.length * 1125899906842624
  | [], _ => by simp [sumQ]
  | x :: r, h => by
    have h1 := sumQ_bd f t r (fun y hy => h y (List.mem_cons_of_mem _ hy))
    have h2 := fitB_bd (h x List.mem_cons_self)
    rw [sumQ_cons]
    simp only [List.length_cons]
    split <;> omega
set_option maxHeartbeats 2000000 in
theorem sl_sum (y i : Int) (l : List Li) (A : Option Addr) (cap : Nat) (f t : Int) (w : World) (hn : l.length ≤ 448) (hb : ∀ x ∈ l, fitB x.2.2 = true) (hs : Sl encLi 3 w w.heap.size A l) :
    Calls Tryz.prog 21 #[.agg #[.int .i64 y, .int .i64 i, .slice A l.length cap], .int .i64 f, .int .i64 t] w fun e w' => e = .returned (.int .i64 (sumQ f t l)) ∧ Below w.heap.size w w' := by
  obtain ⟨R, hR⟩ : ∃ R, sumQ f t l = R := ⟨_, rfl⟩
  rw [hR]
  obtain ⟨sb, hsb⟩ : ∃ x, w.heap.size = x := ⟨_, rfl⟩
  obtain ⟨wa, hwa⟩ : ∃ x, w.alloc (.cells #[.int .i64 y, .int .i64 i, .slice A l.length cap] 41) = x := ⟨_, rfl⟩
  have hb0 : Bk sb 41 #[.int .i64 y, .int .i64 i, .slice A l.length cap] wa := by rw [← hwa, ← hsb]; exact Bk.new _ _ _
  have HBA : Hid (Below w.heap.size w wa) := Lib.hid (by rw [← hwa]; exact bAlloc w _)
  have S2 : wa.cell? ⟨sb, 2, none⟩ = some (.slice A l.length cap) := hb0.cell 2
  have hlts := hb0.lt
  have HS := Lib.hid hs
  have HFB := Lib.hid hb
  have HA0 : Hid (0 + sumQ f t (l.drop 0) = R) := Lib.hid (by rw [Int.zero_add]; exact hR)
  clear hR hb0 hs hb
  go_enter Tryz.func21, Tryz.ntmps21
  go_upto_region 1 with fail
  clear hwa hsb
  go_wp2
  go_loopg [7, 13] l.length (fun k cv iv wr => ∃ (n : Nat) (c : Int), n + k = l.length ∧ iv = .int .i64 n ∧ cv = .int .i64 c ∧ -(n * 1125899906842624 : Int) ≤ c ∧ c ≤ n * 1125899906842624 ∧ Hid (c + sumQ f t (l.drop n) = R) ∧ Hid (Below w.heap.size w wr))
  case atStart => exact ⟨0, 0, Nat.zero_add _, rfl, rfl, by simp, by simp, HA0, HBA⟩
  case round =>
    obtain ⟨n, c, hn1, rfl, rfl, hc1, hc2, HA, HB⟩ := hrel
    clear S2 hlts
    by_cases hlt : n < l.length
    · obtain ⟨b, off, rfl, hB, hc⟩ := HS.out (by intro h; simp [h] at hlt)
      obtain ⟨⟨p, s, v⟩, hx⟩ : ∃ x, l[n]? = some x := ⟨_, List.getElem?_eq_getElem hlt⟩
      have C0 : wr.cell? ⟨b, off + n * 3, none⟩ = some (.int .i64 p) := (HB.out.cell (p := ⟨b, off + n * 3, none⟩) hB).trans (by simpa using hc n _ hx 0 _ rfl)
      have C1 : wr.cell? ⟨b, off + n * 3 + 1, none⟩ = some (.string s) := (HB.out.cell (p := ⟨b, off + n * 3 + 1, none⟩) hB).trans (hc n _ hx 1 _ rfl)
      have C2 : wr.cell? ⟨b, off + n * 3 + 2, none⟩ = some (.int .i64 v) := (HB.out.cell (p := ⟨b, off + n * 3 + 2, none⟩) hB).trans (hc n _ hx 2 _ rfl)
      have hv : -1125899906842624 ≤ v ∧ v ≤ 1125899906842624 := fitB_bd (HFB.out _ (List.mem_of_getElem? hx))
      have hdrop : l.drop n = (p, s, v) :: l.drop (n + 1) := by
        rw [List.drop_eq_getElem_cons hlt]
        congr 1
        have := List.getElem?_eq_getElem hlt
        rw [hx] at this
        exact (Option.some.inj this).symm
      have HD : Hid (R = c + ((if f ≤ p ∧ p ≤ t then v else 0) + sumQ f t (l.drop (n + 1)))) := Lib.hid (by rw [← HA.out, hdrop]; rfl)
      have w1 : IntKind.i64.wrap (c + v) = c + v := by rw [IntKind.wrap_i64]; omega
      obtain ⟨fb, hfb⟩ : ∃ y, wr.heap.size = y := ⟨_, rfl⟩
      obtain ⟨wb, hwb⟩ : ∃ y, wr.alloc (.cells #[.int .i64 p, .string s, .int .i64 v] 44) = y := ⟨_, rfl⟩
      have hb1 : Bk fb 44 #[.int .i64 p, .string s, .int .i64 v] wb := by rw [← hwb, ← hfb]; exact Bk.new _ _ _
      have HB1 : Hid (Below w.heap.size w wb) := Lib.hid (HB.out.trans (by rw [← hwb]; exact (bAlloc wr _).mono HB.out.size))
      have D0 : wb.cell? ⟨fb, 0, none⟩ = some (.int .i64 p) := hb1.cell 0
      have D2 : wb.cell? ⟨fb, 2, none⟩ = some (.int .i64 v) := hb1.cell 2
      have hltb := hb1.lt
      have HWF := Lib.hid (And.intro hfb hwb)
      clear hc hx hdrop HA hfb hwb hb1 HB
      go_upto_region 5 with fail
      rw [HWF.out.1, HWF.out.2]
      clear HWF C0 C1 C2
      by_cases h1 : f ≤ p
      · have d1 : decide (f ≤ p) = true := decide_eq_true h1
        by_cases h2 : p ≤ t
        · have d2 : decide (p ≤ t) = true := decide_eq_true h2
          have HE : Hid (c + v + sumQ f t (l.drop (n + 1)) = R) := Lib.hid (by rw [HD.out, if_pos ⟨h1, h2⟩]; omega)
          go_wp2
          go_roundg (l.length - (n + 1))
          case measure => omega
          case rel => exact ⟨n + 1, c + v, by omega, by go_num, rfl, by omega, by omega, HE, HB1⟩
        · have d2 : decide (p ≤ t) = false := decide_eq_false h2
          have HE : Hid (c + sumQ f t (l.drop (n + 1)) = R) := Lib.hid (by rw [HD.out, if_neg (by omega)]; omega)
          go_wp2
          go_roundg (l.length - (n + 1))
          case measure => omega
          case rel => exact ⟨n + 1, c, by omega, by go_num, rfl, by omega, by omega, HE, HB1⟩
      · have d1 : decide (f ≤ p) = false := decide_eq_false h1
        have HE : Hid (c + sumQ f t (l.drop (n + 1)) = R) := Lib.hid (by rw [HD.out, if_neg (by omega)]; omega)
        go_wp2
        go_roundg (l.length - (n + 1))
        case measure => omega
        case rel => exact ⟨n + 1, c, by omega, by go_num, rfl, by omega, by omega, HE, HB1⟩
    · obtain rfl : n = l.length := by omega
      have HE : Hid (c = R) := Lib.hid (by have := HA.out; rw [List.drop_length] at this; simpa [sumQ] using this)
      go_wp2
      go_ret
      rw [HE.out]
      exact ⟨rfl, HB.out⟩
end Go.Proofs.YtgepbkldgnjpfaaGreatDoor
