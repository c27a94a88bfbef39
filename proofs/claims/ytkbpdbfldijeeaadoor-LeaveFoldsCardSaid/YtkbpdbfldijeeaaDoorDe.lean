/- Contract of the folding's deeds: the years' turns. -/
import Derived.Test.YtkbpdbfldijeeaaDoorFo
import Derived.Test.YtkbpdbfldijeeaaDoorCix
import Derived.Test.YtkbpdbfldijeeaaDoorOwn
namespace Go.Proofs.YtkbpdbfldijeeaaDoor
open Go.RowKit Go.Sort

theorem Tab.below {a b : World} {B : Nat} (h : Tab a) (k : Below B a b) (hB : 0 < B) (hs : a.heap.size ≤ b.heap.size) : Tab b := ⟨Nat.lt_of_lt_of_le h.1 hs, fun i hi => (k.cell (p := ⟨0, i, none⟩) hB).trans (h.2 i hi)⟩
theorem Tab.grownBy {a b : World} {r : Option Nat} (h : Tab a) (k : a.grownBy b r) (hr : some 0 ≠ r) : Tab b := ⟨Nat.lt_of_lt_of_le h.1 k.size, fun i hi => (World.cell?_of_block (a := ⟨0, i, none⟩) (k.block _ h.1 hr)).trans (h.2 i hi)⟩
/-- What one year brings. -/
def yearEl (fb : Nat) (ex y : Int) : List El :=
  (Cal.st y - 25567, .func 34, #[.pointer (some ⟨fb, 0, none⟩)], #[]) ::
    (if 0 < ex ∧ ex < 12 then [(Cal.st y + Cal.cum y (ex + 1) - 25567, .func 36, #[.pointer (some ⟨fb, 0, none⟩)], #[])] else [])
/-- What the k years behind the plan's own bring. -/
def yearsEl (fb : Nat) (ex yr : Int) (k : Nat) : List El := (List.range k).flatMap fun (i : Nat) => yearEl fb ex (yr + 1 + (i : Int))
theorem yearsEl_succ (fb : Nat) (ex yr : Int) (k : Nat) : yearsEl fb ex yr (k + 1) = yearsEl fb ex yr k ++ yearEl fb ex (yr + 1 + (k : Int)) := by
  unfold yearsEl; rw [List.range_succ, List.flatMap_append]; simp
theorem yearsEl_len (fb : Nat) (ex yr : Int) (k : Nat) : (yearsEl fb ex yr k).length ≤ 2 * k := by
  induction k with
  | zero => simp [yearsEl]
  | succ k ih =>
    rw [yearsEl_succ, List.length_append]
    have : (yearEl fb ex (yr + 1 + (k : Int))).length ≤ 2 := by unfold yearEl; split <;> simp
    omega

theorem grownBelow {a b : World} {r : Option Nat} {B : Nat} (h : a.grownBy b r) (hr : ∀ k, r = some k → B ≤ k) (hB : B ≤ a.heap.size) : Below B a b :=
  ⟨h.os, h.tape, h.output, h.size, fun i hi => h.block i (Nat.lt_of_lt_of_le hi hB) (fun e => by have := hr i e.symm; omega)⟩
theorem belowTrans {a b c : World} {B : Nat} (h : Below B a b) (k : Below B b c) : Below B a c := ⟨k.os.trans h.os, k.tape.trans h.tape, k.output.trans h.output, Nat.le_trans h.size k.size, fun i hi => (k.block i hi).trans (h.block i hi)⟩
theorem belowMono {a b : World} {B C : Nat} (h : Below B a b) (hC : C ≤ B) : Below C a b := ⟨h.os, h.tape, h.output, h.size, fun i hi => h.block i (Nat.lt_of_lt_of_le hi hC)⟩
theorem deedInfo : (Tryd.prog.info? 56).map (fun i => (i.zero, i.size, i.bytes)) = some (some (.agg #[.int .i64 0, .nilFunc]), 2, 16) := by kernel_rfl
theorem enc_one (x : El) : ∀ u ∈ enc x, u.oneCell' = true := by
  intro u hu
  simp only [enc, List.mem_cons, List.not_mem_nil, or_false] at hu
  rcases hu with rfl | rfl <;> rfl
theorem encNews {w : World} (x : El) : ∀ (j : Nat) (u : Value), (enc x)[j]? = some u → (w.alloc (.cells #[.int .i64 x.1, .func x.2.1 x.2.2.1 x.2.2.2] 56)).cell? ⟨w.heap.size, j, none⟩ = some u := fun j u h => new_cell _ _ _ _ (by simpa [enc] using h)

set_option maxHeartbeats 1000000 in
theorem fo_deeds (fb : Nat) (yr ca ex : Int) (s : Fo) (w : World) (ht : Tab w) (h1 : 1900 ≤ yr) (h2 : yr ≤ 2199) (h3 : 0 ≤ ex) (h4 : ex ≤ 12) (h : Fd fb yr ca ex s w) :
    Calls Tryd.prog 19 #[.pointer (some ⟨fb, 0, none⟩)] w fun e w' => ∃ v, e = .returned v ∧ Own enc 2 56 w.heap.size v (yearsEl fb ex yr (2199 - yr).toNat) w' ∧ Below w.heap.size w w' := by
  have c4 : w.cell? ⟨fb, 4, none⟩ = some (.int .i64 yr) := h.cell 4
  have c6 : w.cell? ⟨fb, 6, none⟩ = some (.int .i64 ex) := h.cell 6
  have H := Lib.hid h
  clear h
  have hmf : ∀ (fn : Fn) (first cap : Array Value) (w : World), (Instr.makeFunc fn first cap).run Tryd.prog w = .ok (.func fn first cap) w := fun _ _ _ _ => rfl
  go_enter Tryd.func19, Tryd.ntmps19
  go_wp2
  go_loopw [3, 4] (fun v y wr => ∃ k : Nat, (k : Int) ≤ 2199 - yr ∧ y = .int .i64 (yr + 1 + (k : Int)) ∧ Own enc 2 56 w.heap.size v (yearsEl fb ex yr k) wr ∧ Below w.heap.size w wr) (fun _ y _ => (9999 - intOf y).toNat)
  case atStart => exact ⟨0, by omega, by go_num, Own.nil _, Below.refl _ _⟩
  case round =>
    obtain ⟨k, hk, rfl, hown, hb⟩ := hrel
    by_cases hlt : yr + 1 + (k : Int) ≤ 2199
    · have tr := ht.below hb ht.1 hb.size
      have c6r : wr.cell? ⟨fb, 6, none⟩ = some (.int .i64 ex) := (hb.cell (p := ⟨fb, 6, none⟩) H.out.lt).trans c6
      have hl := yearsEl_len fb ex yr k
      have HO := Lib.hid hown
      have HS := Lib.hid (yearsEl_succ fb ex yr k)
      have hbs := hb.size
      have HB := Lib.hid hb
      clear hown hb c6 c4
      go_wp2_with fail
      refine (first_of (yr + 1 + k) _ tr (by omega) (by omega)).mono ?_
      rintro e w1 ⟨rfl, hg1⟩
      have h1s := hg1.size
      have HX : w.heap.size ≤ w1.heap.size := by omega
      have HL : (yearsEl fb ex yr k).length + 1 ≤ 1000000000 := by omega
      have c6a := hg1.cell (Nat.lt_of_lt_of_le H.out.lt hbs) c6r
      clear c6r
      go_wp2_with ((at_builtin; refine wpList_append_row enc_len enc_one rfl _ _ 52 rfl w.heap.size 56 _ 16 Tryd.underlying52 deedInfo rfl (by decide) _ (yearsEl fb ex yr k) (Cal.st (yr + 1 + k) - 25567, .func 34, #[.pointer (some ⟨fb, 0, none⟩)], #[]) rfl ((HO.out.grows hg1).alloc _) w1.heap.size 1 rfl (encNews _) HL (by decide) (Nat.le_trans HX (Grows.of_alloc _ _).size) ?_))
      intro v2 w2 hown2 hgr2
      have hf3 := HO.out.far H.out.lt
      have c6b := World.cell?_of_block (a := ⟨fb, 6, none⟩) (hgr2.block fb (Nat.lt_of_lt_of_le H.out.lt (Nat.le_trans HX (Grows.of_alloc _ _).size)) hf3)
      rw [(Grows.of_alloc w1 _).cell (Nat.lt_of_lt_of_le H.out.lt HX) c6a] at c6b
      have hb2 : Below w.heap.size w w2 := belowTrans (belowTrans HB.out (belowMono hg1.below hbs)) (belowTrans (belowMono (Grows.of_alloc _ _).below HX) (grownBelow hgr2 (fun b hb => (HO.out.lt hb).1) (Nat.le_trans HX (Grows.of_alloc _ _).size)))
      have t2 := ht.below hb2 ht.1 hb2.size
      have HO2 := Lib.hid hown2
      have HB2 := Lib.hid hb2
      have HL2 : ((yearsEl fb ex yr k) ++ [(Cal.st (yr + 1 + k) - 25567, Fn.func 34, #[Value.pointer (some ⟨fb, 0, none⟩)], (#[] : Array Value))]).length + 1 ≤ 1000000000 := by rw [List.length_append]; simp; omega
      have hs2 := hb2.size
      clear hown2 hgr2 hf3 hb2 c6a
      by_cases hx : 0 < ex ∧ ex < 12
      · obtain ⟨x1, x2⟩ := hx
        have HY : Hid (yearEl fb ex (yr + 1 + k) = [(Cal.st (yr + 1 + k) - 25567, .func 34, #[.pointer (some ⟨fb, 0, none⟩)], #[]), (Cal.st (yr + 1 + k) + Cal.cum (yr + 1 + k) (ex + 1) - 25567, .func 36, #[.pointer (some ⟨fb, 0, none⟩)], #[])]) :=
          Lib.hid (by unfold yearEl; rw [if_pos ⟨x1, x2⟩])
        go_wp2_with fail
        refine (civ_AddJan (yr + 1 + k) ex _ t2 (by omega) (by omega) (by omega) (by omega)).mono ?_
        rintro e w3 ⟨rfl, hg3⟩
        have HX3 : w.heap.size ≤ w3.heap.size := Nat.le_trans hs2 hg3.size
        go_wp2_with ((at_builtin; refine wpList_append_row enc_len enc_one rfl _ _ 52 rfl w.heap.size 56 _ 16 Tryd.underlying52 deedInfo rfl (by decide) _ _ (Cal.st (yr + 1 + k) + Cal.cum (yr + 1 + k) (ex + 1) - 25567, .func 36, #[.pointer (some ⟨fb, 0, none⟩)], #[]) rfl ((HO2.out.grows hg3).alloc _) w3.heap.size 1 rfl (encNews _) HL2 (by decide) (Nat.le_trans HX3 (Grows.of_alloc _ _).size) ?_))
        intro v4 w4 hown4 hgr4
        have hb4 : Below w.heap.size w w4 := belowTrans (belowTrans HB2.out (belowMono hg3.below hs2)) (belowTrans (belowMono (Grows.of_alloc _ _).below HX3) (grownBelow hgr4 (fun b hb => (HO2.out.lt hb).1) (Nat.le_trans HX3 (Grows.of_alloc _ _).size)))
        have HO4 := Lib.hid hown4
        have HB4 := Lib.hid hb4
        clear hown4 hb4 hgr4
        go_wp2
        refine ⟨⟨k + 1, by omega, by go_num, ?_, HB4.out⟩, by simp [intOf]; omega⟩
        rw [HS.out, HY.out]
        exact HO4.out
      · have HY : Hid (yearEl fb ex (yr + 1 + k) = [(Cal.st (yr + 1 + k) - 25567, .func 34, #[.pointer (some ⟨fb, 0, none⟩)], #[])]) :=
          Lib.hid (by unfold yearEl; rw [if_neg hx])
        by_cases x1 : 0 < ex
        · have x2 : 12 ≤ ex := by omega
          clear hx
          go_wp2
          refine ⟨⟨k + 1, by omega, by go_num, ?_, HB2.out⟩, by simp [intOf]; omega⟩
          rw [HS.out, HY.out]
          exact HO2.out
        · clear hx
          go_wp2
          refine ⟨⟨k + 1, by omega, by go_num, ?_, HB2.out⟩, by simp [intOf]; omega⟩
          rw [HS.out, HY.out]
          exact HO2.out
    · have HK : Hid ((2199 - yr).toNat = k) := Lib.hid (by omega)
      have HO := Lib.hid hown
      have HB := Lib.hid hb
      clear hown hb
      go_wp2
      go_ret
      exact ⟨_, rfl, by rw [HK.out]; exact HO.out, HB.out⟩
end Go.Proofs.YtkbpdbfldijeeaaDoor
