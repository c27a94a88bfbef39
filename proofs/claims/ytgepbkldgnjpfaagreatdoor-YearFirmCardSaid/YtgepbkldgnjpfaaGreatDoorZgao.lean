/- Out of: Yt3. -/
import Derived.Test.YtgepbkldgnjpfaaGreatDoorZgai
import Derived.Test.YtgepbkldgnjpfaaGreatDoorZgan
/- year's laws: the walk of YearFirm (gen/mkyt3.py). -/
namespace Go.Proofs.YtgepbkldgnjpfaaGreatDoor
open Go.RowKit Go.Sort Go.BigFrame Go.Maps

theorem takeSucc {α β : Type} {l : List α} {n : Nat} {x : α} (f : α → β) (h : l[n]? = some x) : (l.take (n + 1)).map f = (l.take n).map f ++ [f x] := by
  rw [List.take_add_one, h]
  simp
theorem encH_one (x : Sch) : ∀ u ∈ encH x, u.oneCell' = true := by
  intro u hu
  simp only [encH, List.mem_cons, List.not_mem_nil, or_false] at hu
  rcases hu with rfl | rfl | rfl | rfl <;> rfl
theorem schInfo : (Tryz.prog.info? 57).map (fun i => (i.zero, i.size, i.bytes)) = some (some (.agg #[.string ⟨#[]⟩, .int .i64 0, .int .i64 0, .int .i64 0]), 4, 40) := by kernel_rfl
/-- Schemes of which the first k have another rate of the firm's. -/
def scK (F : Int) (k : Nat) (l : List Sch) : List Sch := (l.take k).map (frm F) ++ l.drop k
theorem scK_len (F : Int) (k : Nat) (l : List Sch) : (scK F k l).length = l.length := by
  unfold scK
  rw [List.length_append, List.length_map, List.length_take, List.length_drop]
  omega
theorem scK_zero (F : Int) (l : List Sch) : scK F 0 l = l := rfl
theorem scK_all (F : Int) (l : List Sch) : scK F l.length l = l.map (frm F) := by unfold scK; rw [List.take_length, List.drop_length, List.append_nil]
theorem scK_get {F : Int} {k : Nat} {l : List Sch} {x : Sch} (h : l[k]? = some x) : (scK F k l)[k]? = some x := by
  have hk := (List.getElem?_eq_some_iff.1 h).1
  unfold scK
  rw [List.getElem?_append_right (by rw [List.length_map, List.length_take]; omega), List.length_map, List.length_take, Nat.min_eq_left (by omega), Nat.sub_self, List.getElem?_drop]
  exact h
theorem scK_set {F : Int} {k : Nat} {l : List Sch} {x : Sch} (h : l[k]? = some x) : (scK F k l).set k (frm F x) = scK F (k + 1) l := by
  have hk := (List.getElem?_eq_some_iff.1 h).1
  unfold scK
  rw [takeSucc _ h, List.set_append_right _ _ (by rw [List.length_map, List.length_take]; omega), List.length_map, List.length_take, Nat.min_eq_left (by omega), Nat.sub_self, drop_get h, List.set_cons_zero, List.append_assoc]
  rfl
theorem twoNew (w : World) (c1 c2 : Array Value) (T : TypeId) : Bk w.heap.size T c1 ((w.alloc (.cells c1 T)).alloc (.cells c2 T)).drew ∧ Bk (w.heap.size + 1) T c2 ((w.alloc (.cells c1 T)).alloc (.cells c2 T)).drew ∧ Below w.heap.size w ((w.alloc (.cells c1 T)).alloc (.cells c2 T)).drew := by
  have h1 := bkBel (bkBel (Bk.new w T c1) (bAlloc _ (.cells c2 T))) (bDrew _)
  have h2 := bkBel (Bk.new (w.alloc (.cells c1 T)) T c2) (bDrew _)
  rw [show (w.alloc (.cells c1 T)).heap.size = w.heap.size + 1 by simp] at h2
  exact ⟨h1, h2, bTrans (bTrans (bAlloc w _) (bAlloc _ _)) (bDrew _)⟩
theorem slTake {α : Type} {enc : α → List Value} {sz B : Nat} {w : World} {A : Option Addr} {L : List α} (h : Sl enc sz w B A L) (k : Nat) : Sl enc sz w B A (L.take k) := fun hl => by
  obtain ⟨b, off, e, hB, hc⟩ := h (by rintro rfl; simp at hl)
  refine ⟨b, off, e, hB, fun i x hx j u hu => hc i x ?_ j u hu⟩
  rw [List.getElem?_take] at hx
  split at hx
  · exact hx
  · cases hx
theorem ownCap {α : Type} {enc : α → List Value} {k : Nat} {e : TypeId} {B c : Nat} {A : Option Addr} {l : List α} {w : World} (h : Own enc k e B (.slice A l.length c) l w) : l.length ≤ c ∧ c ≤ 9223372036854775807 ∧ (A = none → c = 0) := by
  rcases h.2 with ⟨h3, h4⟩ | ⟨g, cap', cur, h3, _, _, h5, h6, _⟩
  · injection h3 with e1 e2 e3
    omega
  · injection h3 with e1 e2 e3
    unfold maxLen at h6
    refine ⟨by omega, by omega, fun e => ?_⟩
    rw [e] at e1
    cases e1
theorem run_cutLoL {s t : Nat} {o : Oper} {a : Act} {w : World} {A : Option Addr} {len cap k : Nat} (hop : o.op = .slice 39 (.tmp s) none (some (.tmp t)) none) (hs : a.eval (.tmp s) = .slice A len cap) (ht : a.eval (.tmp t) = .int .i64 k) (hk : k ≤ len) (hlc : len ≤ cap) (hc : cap ≤ 9223372036854775807) (hA : A = none → cap = 0) :
    (execOp a.eval o).run Tryz.prog w = .ok (.value (.slice A k cap)) w := by
  have h1 : (k : Int) ≤ len := by omega
  have h2 : (len : Int) ≤ cap := by omega
  have h3 : (cap : Int) ≤ 9223372036854775807 := by omega
  unfold execOp
  simp only [hop, hs, ht, Option.map_some, Option.map_none]
  cases A with
  | none =>
    obtain rfl : cap = 0 := hA rfl
    obtain rfl : len = 0 := by omega
    obtain rfl : k = 0 := by omega
    go_simp
  | some a =>
    go_simp
    exact fun h => absurd h (by omega)
set_option maxHeartbeats 4000000 in
set_option maxRecDepth 100000 in
theorem lw_YearFirm (l : List (Mon × MoA)) (A : Option Addr) (cap : Nat) (fx : Int) (w : World) (hl : l.length ≤ 140737488355328) (hfx : 0 ≤ fx ∧ fx ≤ 4294967295) (hs : InMo w A l) (hT : TbP w) :
    Calls Tryz.prog 4 #[.slice A l.length cap, .int .u32 fx] w fun e w' => e = .returned (.bool true) ∧ Below w.heap.size w w' := by
  obtain ⟨G, hG⟩ : ∃ g, greatB (l.map Prod.fst) = g := ⟨_, rfl⟩
  have HGR : Hid (Calls Tryz.prog 9 #[.slice A l.length cap] w fun e w' => e = .returned (.bool G) ∧ Below w.heap.size w w') := Lib.hid (by rw [← hG]; exact la_greatI l A cap w hl hs)
  have HG := Lib.hid hG
  have HS := Lib.hid hs
  have HT := Lib.hid hT
  have HAW : Hid (∀ W, Below w.heap.size w W → Calls Tryz.prog 10 #[] W fun e w' => e = .returned (.bool true) ∧ Below W.heap.size W w') := Lib.hid (fun W hW => la_awake28 W (hT.below hW))
  clear hG hs hT
  go_enter Tryz.func4, Tryz.ntmps4
  go_wp2_with fail
  refine HGR.out.mono ?_
  rintro e w1 ⟨rfl, hb1⟩
  have HB1 := Lib.hid hb1
  cases G with
  | true =>
    go_wp2_with fail
    refine (HAW.out _ HB1.out).mono ?_
    rintro e w2 ⟨rfl, hb2⟩
    go_wp2
    go_ret
    exact ⟨rfl, bTrans HB1.out hb2⟩
  | false =>
  obtain ⟨hsm, hl30⟩ := (HS.out.below hb1).ok HG.out
  have HSM := Lib.hid hsm
  have HL30 := Lib.hid hl30
  clear hb1 hsm
  obtain ⟨B0, hB0⟩ : ∃ x, w1.heap.size = x := ⟨_, rfl⟩
  have HBE := Lib.hid hB0
  clear hB0
  have hR : MoR B0 (RSc w1 B0) := moRSc w1 B0 (Nat.le_of_eq HBE.out)
  have HR := Lib.hid hR
  clear hR
  obtain ⟨FR, hFR⟩ : ∃ x, fx % 1000001 = x := ⟨_, rfl⟩
  have HFR := Lib.hid hFR
  have HFW : Hid (IntKind.i64.wrap FR = FR ∧ 0 ≤ FR ∧ FR ≤ 1000000) := Lib.hid ⟨by rw [IntKind.wrap_i64]; omega, by omega, by omega⟩
  clear hFR
  go_wp2_with fail
  go_loopg [5, 6] l.length (fun kk ov iv wr => ∃ (sv : Value) (n : Nat) (ps : List (Mon × MoA)), sv = ov ∧ n + kk = l.length ∧ iv = .int .i64 n ∧ Hid (ps.map Prod.fst = (l.take n).map fun p => mFrm FR p.1) ∧ Hid (OwnMs B0 (RSc w1 B0) ov ps wr) ∧ Hid (Below w1.heap.size w1 wr))
  case atStart => exact ⟨_, 0, [], rfl, Nat.zero_add _, rfl, Lib.hid rfl, Lib.hid OwnMs.nil, Lib.hid (Below.refl _ _)⟩
  case round =>
    obtain ⟨ov, n, ps, rfl, hn1, rfl, HPS, HOW, HBR⟩ := hrel
    have HLP : Hid (ps.length = n) := Lib.hid (by have h := congrArg List.length HPS.out; rw [List.length_map, List.length_map, List.length_take] at h; omega)
    by_cases hlt : n < l.length
    · obtain ⟨b, off, rfl, hB, hc⟩ := (HSM.out.1) (by intro h; simp [h] at hlt)
      obtain ⟨⟨M, MA⟩, hx⟩ : ∃ x, l[n]? = some x := ⟨_, List.getElem?_eq_getElem hlt⟩
      have HM : Hid (MoOk M MA w1) := Lib.hid (HSM.out.2 _ (List.mem_of_getElem? hx))
      have c0 : wr.cell? ⟨b, off + n * 12, none⟩ = some (.int .i64 M.y) := (HBR.out.cell (p := ⟨b, off + n * 12, none⟩) hB).trans (by simpa using hc n _ hx 0 _ rfl)
      have c1 : wr.cell? ⟨b, off + n * 12 + 1, none⟩ = some (.int .i64 M.i) := (HBR.out.cell (p := ⟨b, off + n * 12 + 1, none⟩) hB).trans (hc n _ hx 1 _ rfl)
      have c2 : wr.cell? ⟨b, off + n * 12 + 2, none⟩ = some (.int .i64 M.o) := (HBR.out.cell (p := ⟨b, off + n * 12 + 2, none⟩) hB).trans (hc n _ hx 2 _ rfl)
      have c3 : wr.cell? ⟨b, off + n * 12 + 3, none⟩ = some (.slice MA.gr.1 M.gr.length MA.gr.2) := (HBR.out.cell (p := ⟨b, off + n * 12 + 3, none⟩) hB).trans (hc n _ hx 3 _ rfl)
      have c4 : wr.cell? ⟨b, off + n * 12 + 4, none⟩ = some (.slice MA.be.1 M.be.length MA.be.2) := (HBR.out.cell (p := ⟨b, off + n * 12 + 4, none⟩) hB).trans (hc n _ hx 4 _ rfl)
      have c5 : wr.cell? ⟨b, off + n * 12 + 5, none⟩ = some (.slice MA.af.1 M.af.length MA.af.2) := (HBR.out.cell (p := ⟨b, off + n * 12 + 5, none⟩) hB).trans (hc n _ hx 5 _ rfl)
      have c6 : wr.cell? ⟨b, off + n * 12 + 6, none⟩ = some (.slice MA.li.1 M.li.length MA.li.2) := (HBR.out.cell (p := ⟨b, off + n * 12 + 6, none⟩) hB).trans (hc n _ hx 6 _ rfl)
      have c7 : wr.cell? ⟨b, off + n * 12 + 7, none⟩ = some (.slice MA.sc.1 M.sc.length MA.sc.2) := (HBR.out.cell (p := ⟨b, off + n * 12 + 7, none⟩) hB).trans (hc n _ hx 7 _ rfl)
      have c8 : wr.cell? ⟨b, off + n * 12 + 8, none⟩ = some (.int .i64 M.al) := (HBR.out.cell (p := ⟨b, off + n * 12 + 8, none⟩) hB).trans (hc n _ hx 8 _ rfl)
      have c9 : wr.cell? ⟨b, off + n * 12 + 9, none⟩ = some (.int .i64 M.ex) := (HBR.out.cell (p := ⟨b, off + n * 12 + 9, none⟩) hB).trans (hc n _ hx 9 _ rfl)
      have c10 : wr.cell? ⟨b, off + n * 12 + 10, none⟩ = some (.slice MA.ba.1 M.ba.length MA.ba.2) := (HBR.out.cell (p := ⟨b, off + n * 12 + 10, none⟩) hB).trans (hc n _ hx 10 _ rfl)
      have c11 : wr.cell? ⟨b, off + n * 12 + 11, none⟩ = some (.slice MA.od.1 M.od.length MA.od.2) := (HBR.out.cell (p := ⟨b, off + n * 12 + 11, none⟩) hB).trans (hc n _ hx 11 _ rfl)
      obtain ⟨mb, hmb⟩ : ∃ y, wr.heap.size = y := ⟨_, rfl⟩
      obtain ⟨wa, hwa⟩ : ∃ y, wr.alloc (.cells #[.int .i64 M.y, .int .i64 M.i, .int .i64 M.o, .slice MA.gr.1 M.gr.length MA.gr.2, .slice MA.be.1 M.be.length MA.be.2, .slice MA.af.1 M.af.length MA.af.2, .slice MA.li.1 M.li.length MA.li.2, .slice MA.sc.1 M.sc.length MA.sc.2, .int .i64 M.al, .int .i64 M.ex, .slice MA.ba.1 M.ba.length MA.ba.2, .slice MA.od.1 M.od.length MA.od.2] 54) = y := ⟨_, rfl⟩
      have hkm : Bk mb 54 (moC M MA) wa := by rw [← hwa, ← hmb]; exact Bk.new _ _ _
      have HBA : Hid (Below wr.heap.size wr wa) := Lib.hid (by rw [← hwa]; exact bAlloc wr _)
      have HWF := Lib.hid (And.intro hmb hwa)
      have HXL : Hid ((l.take (n + 1)).map (fun p => mFrm FR p.1) = (l.take n).map (fun p => mFrm FR p.1) ++ [mFrm FR M]) := Lib.hid (takeSucc _ hx)
      clear hc hx hmb hwa
      go_upto_region 8 with fail
      rw [HWF.out.2, HWF.out.1]
      clear c0 c1 c2 c3 c4 c5 c6 c7 c8 c9 c10 c11
      obtain ⟨hb0, hhb⟩ : ∃ y, wa.heap.size = y := ⟨_, rfl⟩
      obtain ⟨wb, hwb⟩ : ∃ y, wa.alloc (.cells #[] 57) = y := ⟨_, rfl⟩
      have hkb : Bk mb 54 (moC M MA) wb := bkBel hkm (by rw [← hwb]; exact bAlloc wa _)
      have HKB := Lib.hid hkb
      have HKA := Lib.hid hkm
      have hmbe := HWF.out.1
      have hbas := HBA.out.size
      have HOB : Hid (Own encH 4 57 wr.heap.size (.slice (some ⟨hb0, 0, none⟩) 0 0) ([] : List Sch) wb) := Lib.hid (by rw [← hwb, ← hhb]; exact ownNew0 wa hbas)
      have HBB : Hid (Below wr.heap.size wr wb) := Lib.hid (by rw [← hwb]; exact bTrans HBA.out (bAlloc wa _))
      have HNE : Hid (mb ≠ hb0 ∧ wr.heap.size = mb ∧ mb < hb0) := Lib.hid ⟨by have := hkm.lt; omega, hmbe, by have := hkm.lt; omega⟩
      have HSC : Hid (Sl encH 4 wb wb.heap.size MA.sc.1 M.sc ∧ M.sc.length ≤ 1000000) := Lib.hid ⟨(HM.out.below (bTrans HBR.out HBB.out)).sc, HM.out.ln.2.2.2.2.1⟩
      have HWG := Lib.hid (And.intro hhb hwb)
      clear hhb hwb hkb hkm hmbe hbas HWF
      have HOB2 : Hid (Own encH 4 57 wr.heap.size (.slice (some ⟨wa.heap.size, 0, none⟩) 0 0) ([] : List Sch) (wa.alloc (.cells #[] 57))) := Lib.hid (by rw [HWG.out.2, HWG.out.1]; exact HOB.out)
      have HSC2 : Hid (Sl encH 4 (wa.alloc (.cells #[] 57)) (wa.alloc (.cells #[] 57)).heap.size MA.sc.1 M.sc) := Lib.hid (by rw [HWG.out.2]; exact HSC.out.1)
      have HBS2 : Hid (wr.heap.size ≤ (wa.alloc (.cells #[] 57)).heap.size) := Lib.hid (by rw [HWG.out.2]; exact HBB.out.size)
      have hk7' : wa.cell? ⟨mb, 7, none⟩ = some (.slice MA.sc.1 M.sc.length MA.sc.2) := HKA.out.cell 7
      have hlt9 : mb < wa.heap.size := HKA.out.lt
      have hne9 : mb ≠ wa.heap.size := by omega
      go_wp2_with ((at_builtin; refine wpList_append_sl encH_len encH_one rfl _ _ 48 rfl wr.heap.size 57 _ 40 Tryz.underlying48 schInfo rfl (by decide) _ ([] : List Sch) M.sc MA.sc.1 MA.sc.2 rfl HOB2.out rfl HSC2.out (by have := HSC.out.2; simp; omega) (by decide) HBS2.out ?_))
      intro v8 w8 ho8 hg8
      rw [HWG.out.2, HWG.out.1] at hg8
      replace ho8 : Own encH 4 57 wr.heap.size v8 M.sc w8 := ho8
      obtain ⟨A8, c8, hv8, _⟩ := own_Sl encH_len ho8
      subst hv8
      have hk8 : Bk mb 54 (moC M MA) w8 := HKB.out.grownBy hg8 (by show some mb ≠ some hb0; intro h; injection h with h; exact HNE.out.1 h)
      obtain ⟨y, hy⟩ : ∃ y, w8.setCell ⟨mb, 7, none⟩ (.slice A8 M.sc.length c8) = y := ⟨_, rfl⟩
      have HKY : Hid (Bk mb 54 (moC M { MA with sc := (A8, c8) }) y) := Lib.hid (by rw [← hy]; exact hk8.set_ 7 _)
      have hfz : w8.frozen? ⟨mb, 7, none⟩ = false := hk8.frozen 7
      have hk87 := hk8.cell 7
      have HOY : Hid (Own encH 4 57 wr.heap.size (.slice A8 M.sc.length c8) (scK FR 0 M.sc) y) := Lib.hid (by
        rw [← hy, scK_zero]
        exact ho8.kept (grownSet w8 mb 7 _) (.inr (Ne.symm (ho8.ne_ (g := mb) hk8 (by decide)))))
      have HBY : Hid (Below wr.heap.size wr y) := Lib.hid (by
        rw [← hy]
        have h1 : Below wr.heap.size wr w8 := HBB.out.trans (grownBelowI hg8 (fun j hj => by have h2 : some hb0 = some j := hj; injection h2 with h2; have := HNE.out; omega) HBB.out.size)
        exact h1.setCell (by show wr.heap.size ≤ mb; have := HNE.out; omega) _)
      have HYE := Lib.hid hy
      clear ho8 hg8 hk8 hy hk7' hlt9 hne9 HWG HOB HBB HKB HKA HSC HOB2 HSC2 HBS2
      go_upto_region 9 with fail
      rw [HYE.out]
      clear HYE hfz hk87
      go_wp2_with fail
      go_loopg [8] M.sc.length (fun kk kv wz => ∃ (k : Nat), k + kk = M.sc.length ∧ kv = .int .i64 k ∧ Hid (Own encH 4 57 wr.heap.size (.slice A8 M.sc.length c8) (scK FR k M.sc) wz) ∧ Hid (Bk mb 54 (moC M { MA with sc := (A8, c8) }) wz) ∧ Hid (Below wr.heap.size wr wz))
      case atStart => exact ⟨0, Nat.zero_add _, rfl, HOY, HKY, HBY⟩
      case round =>
        obtain ⟨k, hk1, rfl, HOZ, HKZ, HBZ⟩ := hrel
        rename World => wz
        clear HOY HKY HBY
        by_cases hlk : k < M.sc.length
        · obtain ⟨h8, cap8, he8, hb8, hrw8⟩ := HOZ.out.row encH_len (by intro h; have := congrArg List.length h; rw [scK_len] at this; rw [this] at hlk; exact absurd hlk (Nat.not_lt_zero _))
          have ha8 : A8 = some ⟨h8, 0, none⟩ := by injection he8
          clear he8
          subst ha8
          obtain ⟨x, hx⟩ : ∃ x, M.sc[k]? = some x := ⟨_, List.getElem?_eq_getElem hlk⟩
          have hxs := scK_get (F := FR) hx
          have z7 : wz.cell? ⟨mb, 7, none⟩ = some (.slice (some ⟨h8, 0, none⟩) M.sc.length c8) := HKZ.out.cell 7
          have C2 : wz.cell? ⟨h8, k * 4 + 2, none⟩ = some (.int .i64 x.2.2.1) := hrw8.cell hxs (j := 2) rfl
          have hoz : wz.ownsRow wr.heap.size 57 4 (.slice (some ⟨h8, 0, none⟩) M.sc.length c8) M.sc.length (rowOf encH (scK FR k M.sc)) := by have h := HOZ.out; unfold Own at h; rwa [scK_len] at h
          have F2 : wz.frozen? ⟨h8, k * 4 + 2, none⟩ = false := World.ownsRow.frozenAt hoz _
          obtain ⟨hst, hgs⟩ := World.ownsRow.stored hoz (k * 4 + 2) (.int .i64 FR)
          rw [rowOf_set encH_len hxs (by decide) (y := frm FR x) rfl, scK_set hx] at hst
          obtain ⟨y2, hy2⟩ : ∃ y, wz.setCell ⟨h8, k * 4 + 2, none⟩ (.int .i64 FR) = y := ⟨_, rfl⟩
          rw [hy2] at hst hgs
          have HOZ2 : Hid (Own encH 4 57 wr.heap.size (.slice (some ⟨h8, 0, none⟩) M.sc.length c8) (scK FR (k + 1) M.sc) y2) := Lib.hid (by unfold Own; rw [scK_len]; exact hst)
          have HKZ2 : Hid (Bk mb 54 (moC M { MA with sc := (some ⟨h8, 0, none⟩, c8) }) y2) := Lib.hid (HKZ.out.grownBy hgs (HOZ.out.ne_ (g := mb) HKZ.out (by decide)))
          have HBZ2 : Hid (Below wr.heap.size wr y2) := Lib.hid (HBZ.out.trans (grownBelowI hgs (fun j hj => by cases hj; exact hb8) HBZ.out.size))
          have HY2 := Lib.hid hy2
          have hfr := HFR.out
          have hsc := HM.out.ln.2.2.2.2.1
          obtain ⟨wfr, hfr0, hfr1⟩ := HFW.out
          clear hst hgs hy2 hoz hxs hx hrw8
          go_upto_region 11 with fail
          rw [HY2.out]
          clear HY2 z7 C2 F2
          go_wp2
          go_roundg (M.sc.length - (k + 1))
          case measure => omega
          case rel => exact ⟨k + 1, by omega, by go_num, HOZ2, HKZ2, HBZ2⟩
        · obtain rfl : k = M.sc.length := by omega
          have ce0 : wz.cell? ⟨mb, 0, none⟩ = some (.int .i64 M.y) := Bk.cell (HKZ.out) 0
          have ce1 : wz.cell? ⟨mb, 1, none⟩ = some (.int .i64 M.i) := Bk.cell (HKZ.out) 1
          have ce2 : wz.cell? ⟨mb, 2, none⟩ = some (.int .i64 M.o) := Bk.cell (HKZ.out) 2
          have ce3 : wz.cell? ⟨mb, 3, none⟩ = some (.slice MA.gr.1 M.gr.length MA.gr.2) := Bk.cell (HKZ.out) 3
          have ce4 : wz.cell? ⟨mb, 4, none⟩ = some (.slice MA.be.1 M.be.length MA.be.2) := Bk.cell (HKZ.out) 4
          have ce5 : wz.cell? ⟨mb, 5, none⟩ = some (.slice MA.af.1 M.af.length MA.af.2) := Bk.cell (HKZ.out) 5
          have ce6 : wz.cell? ⟨mb, 6, none⟩ = some (.slice MA.li.1 M.li.length MA.li.2) := Bk.cell (HKZ.out) 6
          have ce7 : wz.cell? ⟨mb, 7, none⟩ = some (.slice A8 M.sc.length c8) := Bk.cell (HKZ.out) 7
          have ce8 : wz.cell? ⟨mb, 8, none⟩ = some (.int .i64 M.al) := Bk.cell (HKZ.out) 8
          have ce9 : wz.cell? ⟨mb, 9, none⟩ = some (.int .i64 M.ex) := Bk.cell (HKZ.out) 9
          have ce10 : wz.cell? ⟨mb, 10, none⟩ = some (.slice MA.ba.1 M.ba.length MA.ba.2) := Bk.cell (HKZ.out) 10
          have ce11 : wz.cell? ⟨mb, 11, none⟩ = some (.slice MA.od.1 M.od.length MA.od.2) := Bk.cell (HKZ.out) 11
          have HSC2 : Hid (Own encH 4 57 B0 (.slice A8 (M.sc.map (frm FR)).length c8) (M.sc.map (frm FR)) wz) := Lib.hid (by
            have h := HOZ.out
            rw [scK_all] at h
            rw [List.length_map]
            exact own_low h (by have := HBE.out; have := HBR.out.size; omega))
          have HRX : Hid (RSc w1 B0 (mFrm FR M, { MA with sc := (A8, c8) }) wz) := Lib.hid ⟨⟨(show MoOk (noSc M) (noScA MA) w1 from noSc_ok HM.out), bTrans HBR.out HBZ.out⟩, ⟨by show (M.sc.map (frm FR)).length ≤ 1000000; rw [List.length_map]; exact HM.out.ln.2.2.2.2.1, fun x hx => by
            obtain ⟨x0, hx0, rfl⟩ := List.mem_map.1 hx
            exact HM.out.sz.2.2.2.2.1 x0 hx0⟩, HSC2.out⟩
          have HOW' : Hid (OwnMs B0 (RSc w1 B0) ov ps wz) := Lib.hid (HOW.out.below HR.out HBZ.out)
          have HSZ : Hid (B0 ≤ wz.heap.size ∧ ps.length ≤ 1000) := Lib.hid ⟨by have := HBE.out; have := HBR.out.size; have := HBZ.out.size; omega, by have := HLP.out; have := HL30.out; omega⟩
          have HNW : Hid (∀ j u, (encMo (mFrm FR M, { MA with sc := (A8, c8) }))[j]? = some u → (wz.alloc (.cells #[.int .i64 M.y, .int .i64 M.i, .int .i64 M.o, .slice MA.gr.1 M.gr.length MA.gr.2, .slice MA.be.1 M.be.length MA.be.2, .slice MA.af.1 M.af.length MA.af.2, .slice MA.li.1 M.li.length MA.li.2, .slice A8 M.sc.length c8, .int .i64 M.al, .int .i64 M.ex, .slice MA.ba.1 M.ba.length MA.ba.2, .slice MA.od.1 M.od.length MA.od.2] 54)).cell? ⟨wz.heap.size, j, none⟩ = some u) := Lib.hid (by
            have h := newsMo (mFrm FR M, { MA with sc := (A8, c8) }) wz
            have e : moC (mFrm FR M) { MA with sc := (A8, c8) } = #[.int .i64 M.y, .int .i64 M.i, .int .i64 M.o, .slice MA.gr.1 M.gr.length MA.gr.2, .slice MA.be.1 M.be.length MA.be.2, .slice MA.af.1 M.af.length MA.af.2, .slice MA.li.1 M.li.length MA.li.2, .slice A8 M.sc.length c8, .int .i64 M.al, .int .i64 M.ex, .slice MA.ba.1 M.ba.length MA.ba.2, .slice MA.od.1 M.od.length MA.od.2] := by unfold moC mFrm; rw [List.length_map]
            rw [e] at h
            exact h)
          go_wp2_with ((at_builtin; refine wpList_append_row encMo_len encMo_one rfl _ _ 22 rfl B0 54 _ 208 Tryz.underlying22 moInfo rfl (by decide) _ ps (mFrm FR M, { MA with sc := (A8, c8) }) rfl (HOW'.out.1.alloc _) wz.heap.size 1 rfl HNW.out (by have := HSZ.out.2; omega) (by decide) (Nat.le_trans HSZ.out.1 (Grows.of_alloc wz _).size) ?_))
          intro v9 w9 hown9 hgr9
          have hbl : Below wz.heap.size wz (wz.alloc (.cells #[.int .i64 M.y, .int .i64 M.i, .int .i64 M.o, .slice MA.gr.1 M.gr.length MA.gr.2, .slice MA.be.1 M.be.length MA.be.2, .slice MA.af.1 M.af.length MA.af.2, .slice MA.li.1 M.li.length MA.li.2, .slice A8 M.sc.length c8, .int .i64 M.al, .int .i64 M.ex, .slice MA.ba.1 M.ba.length MA.ba.2, .slice MA.od.1 M.od.length MA.od.2] 54)) := bAlloc _ _
          have hoy := HOW'.out.below HR.out hbl
          have HB9 : Hid (Below w1.heap.size w1 w9) := Lib.hid (belOwn (bTrans (bTrans HBR.out HBZ.out) hbl) (Nat.le_of_eq HBE.out) (Nat.le_refl _) hoy.1 hgr9)
          have HO9 : Hid (OwnMs B0 (RSc w1 B0) v9 (ps ++ [(mFrm FR M, { MA with sc := (A8, c8) })]) w9) := Lib.hid (hoy.snoc HR.out (HR.out.bel _ _ _ hbl HRX.out) hown9 hgr9)
          have HP9 : Hid ((ps ++ [(mFrm FR M, { MA with sc := (A8, c8) })]).map Prod.fst = (l.take (n + 1)).map fun p => mFrm FR p.1) := Lib.hid (by rw [List.map_append, HPS.out, HXL.out]; rfl)
          clear hown9 hgr9 hbl hoy ce0 ce1 ce2 ce3 ce4 ce5 ce6 ce7 ce8 ce9 ce10 ce11
          go_wp2
          go_roundg (l.length - (n + 1))
          case measure => omega
          case rel => exact ⟨_, n + 1, _, rfl, by omega, by go_num, HP9, HO9, HB9⟩
    · obtain rfl : n = l.length := by omega
      have hrow := HOW.out.row HR.out
      obtain ⟨A7, c7, rfl, hsm7, _⟩ := hrow
      have HSM7 := Lib.hid hsm7
      have HPM : Hid (ps.map Prod.fst = (l.map Prod.fst).map (mFrm FR)) := Lib.hid (by rw [HPS.out, List.take_length, List.map_map]; rfl)
      have HBW : Hid (Below w.heap.size w wr) := Lib.hid (bTrans HB1.out HBR.out)
      obtain ⟨⟨slA, SR, eA⟩, hRA⟩ : ∃ R, foldM (l.map Prod.fst) = R := ⟨_, rfl⟩
      obtain ⟨⟨slB, SU, eB⟩, hRB⟩ : ∃ R, foldM (ps.map Prod.fst) = R := ⟨_, rfl⟩
      have HFA : Hid (Calls Tryz.prog 11 #[.slice A l.length cap] wr fun e w' => ResF (slA, SR, eA) 1572864 wr e w') := Lib.hid (by rw [← hRA]; exact yr_Fold l A cap wr (by have := HL30.out; omega) (HSM.out.below HBR.out) (HT.out.below HBW.out).tb)
      have HFB : Hid (∀ W, Below wr.heap.size wr W → Calls Tryz.prog 11 #[.slice A7 ps.length c7] W fun e w' => ResF (slB, SU, eB) 1572864 W e w') := Lib.hid (fun W hW => by rw [← hRB]; exact yr_Fold ps A7 c7 W (by have := HL30.out; have := HLP.out; omega) (HSM7.out.below hW) ((HT.out.below HBW.out).below hW).tb)
      have HCUT : Hid (eA = 0 → eB = 0 → slA.map cutF = slB.map cutF ∧ (∀ x ∈ slA, RiseP x) ∧ ∀ x ∈ slB, RiseP x) := Lib.hid (fun h1 h2 => by
        have h := firm_fold (F := FR) (l.map Prod.fst) (by rw [hRA]; exact h1) (by rw [← HPM.out, hRB]; exact h2)
        rw [← HPM.out, hRA, hRB] at h
        refine ⟨h, fun x hx => rise_fold (l.map Prod.fst) x (by rw [hRA]; exact hx), fun x hx => rise_fold (ps.map Prod.fst) x (by rw [hRB]; exact hx)⟩)
      have HCN : Hid (slA.length ≤ 30) := Lib.hid (by
        have h := resGo_cnt Ste.none (l.map Prod.fst) Ste.none []
        have e : foldM (l.map Prod.fst) = resGo Ste.none Ste.none [] (l.map Prod.fst) := by unfold foldM resM; rw [if_neg (by rw [List.length_map]; have := HL30.out; omega)]
        rw [← e, hRA] at h
        simp only [List.length_nil, List.length_map] at h
        have := HL30.out
        omega)
      clear hRA hRB hsm7 HLP
      go_wp2_with fail
      refine HFA.out.mono ?_
      rintro e w2 ⟨⟨vb, vs, vo⟩, sv, rs, hee, hrs, hos, hst, hb2⟩
      obtain ⟨m1, h1⟩ := hst.be.form
      obtain ⟨m2, h2⟩ := hst.so.form
      obtain ⟨m3, h3⟩ := hst.od.form
      dsimp only at h1 h2 h3
      subst h1 h2 h3
      obtain ⟨A3, c3, rfl, _⟩ := own_Sl encSl_len hos.1
      replace hee : e = .returned (.tuple #[.slice A3 rs.length c3, .agg #[.int .i64 SR.y, .int .i64 SR.i, .int .i64 SR.o, .map m1, .map m2, .int .i64 SR.tb, .int .i64 SR.tt, .map m3], .int .i64 eA]) := hee
      subst hee
      obtain ⟨tb10, htb⟩ : ∃ x, w2.heap.size = x := ⟨_, rfl⟩
      obtain ⟨w3, hw3⟩ : ∃ x, w2.alloc (.cells #[.int .i64 SR.y, .int .i64 SR.i, .int .i64 SR.o, .map m1, .map m2, .int .i64 SR.tb, .int .i64 SR.tt, .map m3] 33) = x := ⟨_, rfl⟩
      have g3 : Below w2.heap.size w2 w3 := by rw [← hw3]; exact bAlloc _ _
      have HK10 : Hid (Bk tb10 33 #[.int .i64 SR.y, .int .i64 SR.i, .int .i64 SR.o, .map m1, .map m2, .int .i64 SR.tb, .int .i64 SR.tt, .map m3] w3) := Lib.hid (by rw [← hw3, ← htb]; exact Bk.new _ _ _)
      have HOS : Hid (rs.map Prod.fst = slA ∧ OwnSl wr.heap.size (.slice A3 rs.length c3) rs w3) := Lib.hid ⟨hrs, hos.below g3⟩
      have HSR : Hid (StOk SR ⟨.map m1, .map m2, .map m3⟩ 1572864 w3) := Lib.hid (hst.below g3)
      have HBS : Hid (Below wr.heap.size wr w3) := Lib.hid (bTrans hb2 g3)
      have HWF : Hid (w2.heap.size = tb10 ∧ w2.alloc (.cells #[.int .i64 SR.y, .int .i64 SR.i, .int .i64 SR.o, .map m1, .map m2, .int .i64 SR.tb, .int .i64 SR.tt, .map m3] 33) = w3) := Lib.hid ⟨htb, hw3⟩
      clear hrs hos hst hb2 g3 htb hw3 HFA
      go_upto_region 15 with fail
      rw [HWF.out.2, HWF.out.1]
      clear HWF
      have HFB2 := Lib.hid (HFB.out w3 HBS.out)
      clear HFB
      go_wp2_with fail
      refine HFB2.out.mono ?_
      rintro e w4 ⟨⟨vb, vs, vo⟩, sv, rt, hee, hrs, hos, hst, hb2⟩
      obtain ⟨p1, h1⟩ := hst.be.form
      obtain ⟨p2, h2⟩ := hst.so.form
      obtain ⟨p3, h3⟩ := hst.od.form
      dsimp only at h1 h2 h3
      subst h1 h2 h3
      obtain ⟨A4, c4, rfl, _⟩ := own_Sl encSl_len hos.1
      replace hee : e = .returned (.tuple #[.slice A4 rt.length c4, .agg #[.int .i64 SU.y, .int .i64 SU.i, .int .i64 SU.o, .map p1, .map p2, .int .i64 SU.tb, .int .i64 SU.tt, .map p3], .int .i64 eB]) := hee
      subst hee
      obtain ⟨tb13, htb⟩ : ∃ x, w4.heap.size = x := ⟨_, rfl⟩
      obtain ⟨w5, hw3⟩ : ∃ x, w4.alloc (.cells #[.int .i64 SU.y, .int .i64 SU.i, .int .i64 SU.o, .map p1, .map p2, .int .i64 SU.tb, .int .i64 SU.tt, .map p3] 33) = x := ⟨_, rfl⟩
      have g3 : Below w4.heap.size w4 w5 := by rw [← hw3]; exact bAlloc _ _
      have HK13 : Hid (Bk tb13 33 #[.int .i64 SU.y, .int .i64 SU.i, .int .i64 SU.o, .map p1, .map p2, .int .i64 SU.tb, .int .i64 SU.tt, .map p3] w5) := Lib.hid (by rw [← hw3, ← htb]; exact Bk.new _ _ _)
      have HOT : Hid (rt.map Prod.fst = slB ∧ OwnSl w3.heap.size (.slice A4 rt.length c4) rt w5) := Lib.hid ⟨hrs, hos.below g3⟩
      have HSU : Hid (StOk SU ⟨.map p1, .map p2, .map p3⟩ 1572864 w5) := Lib.hid (hst.below g3)
      have HBU : Hid (Below w3.heap.size w3 w5) := Lib.hid (bTrans hb2 g3)
      have HWF : Hid (w4.heap.size = tb13 ∧ w4.alloc (.cells #[.int .i64 SU.y, .int .i64 SU.i, .int .i64 SU.o, .map p1, .map p2, .int .i64 SU.tb, .int .i64 SU.tt, .map p3] 33) = w5) := Lib.hid ⟨htb, hw3⟩
      clear hrs hos hst hb2 g3 htb hw3 HFB2
      go_upto_region 16 with fail
      rw [HWF.out.2, HWF.out.1]
      clear HWF
      have HB5 : Hid (Below w.heap.size w w5) := Lib.hid (bTrans (bTrans HBW.out HBS.out) HBU.out)
      by_cases hfa : eA = 0
      case neg =>
        have d1 : (eA != 0) = true := by simpa using hfa
        clear hfa
        go_wp2_with (go_at_call 10; refine (HAW.out _ HB5.out).mono ?_; rintro e w6 ⟨rfl, hb6⟩)
        go_ret
        exact ⟨rfl, bTrans HB5.out hb6⟩
      case pos =>
      subst hfa
      have d0 : ((0 : Int) != 0) = false := rfl
      by_cases hfb : eB = 0
      case neg =>
        have d1 : (eB != 0) = true := by simpa using hfb
        clear hfb
        go_wp2_with (go_at_call 10; refine (HAW.out _ HB5.out).mono ?_; rintro e w6 ⟨rfl, hb6⟩)
        go_ret
        exact ⟨rfl, bTrans HB5.out hb6⟩
      case pos =>
      subst hfb
      obtain ⟨hcu, hra, hrb⟩ := HCUT.out rfl rfl
      have HCU := Lib.hid hcu
      have HRA := Lib.hid hra
      have HRB := Lib.hid hrb
      have HLN : Hid (rs.length ≤ 30 ∧ rt.length = rs.length) := Lib.hid (by
        have h1 := congrArg List.length HCU.out
        have h2 := HCN.out
        rw [List.length_map, List.length_map, ← HOS.out.1, ← HOT.out.1, List.length_map, List.length_map] at h1
        rw [← HOS.out.1, List.length_map] at h2
        omega)
      have HOA : Hid (OwnSl B0 (.slice A3 rs.length c3) rs w5 ∧ OwnSl B0 (.slice A4 rt.length c4) rt w5) := Lib.hid ⟨(HOS.out.2.low (by have := HBE.out; have := HBR.out.size; omega)).below HBU.out, HOT.out.2.low (by have := HBE.out; have := HBR.out.size; have := HBS.out.size; omega)⟩
      have hl30a := HLN.out.1
      have hl30b : rs.length ≤ 1000000 := by omega
      clear hcu hra hrb HCUT HCN
      go_wp2_with fail
      go_loopg [15] rs.length (fun kk jv wq => ∃ (j : Nat), j + kk = rs.length ∧ jv = .int .i64 j ∧ Hid (Below w5.heap.size w5 wq))
      case atStart => exact ⟨0, Nat.zero_add _, rfl, Lib.hid (Below.refl _ _)⟩
      case round =>
        obtain ⟨j, hj, rfl, HBQ⟩ := hrel
        rename World => wq
        by_cases hlt : j < rs.length
        · have hrl : j < rt.length := by have := HLN.out.2; omega
          obtain ⟨ga, capa, hea, _, hrwa⟩ := HOA.out.1.1.row encSl_len (by intro h; simp [h] at hlt)
          obtain ⟨gb, capb, heb, _, hrwb⟩ := HOA.out.2.1.row encSl_len (by intro h; simp [h] at hrl)
          have haa : A3 = some ⟨ga, 0, none⟩ := by injection hea
          have hab : A4 = some ⟨gb, 0, none⟩ := by injection heb
          clear hea heb
          subst haa hab
          obtain ⟨⟨⟨y5, i5, l5⟩, A5, c5⟩, hxa⟩ : ∃ x, rs[j]? = some x := ⟨_, List.getElem?_eq_getElem hlt⟩
          obtain ⟨⟨⟨y6, i6, l6⟩, A6, c6⟩, hxb⟩ : ∃ x, rt[j]? = some x := ⟨_, List.getElem?_eq_getElem hrl⟩
          have hma : slA[j]? = some (y5, i5, l5) := by rw [← HOS.out.1, List.getElem?_map, hxa]; rfl
          have hmb : slB[j]? = some (y6, i6, l6) := by rw [← HOT.out.1, List.getElem?_map, hxb]; rfl
          have hxe : cutF (y5, i5, l5) = cutF (y6, i6, l6) := by
            have h1 := congrArg (fun z => z[j]?) HCU.out
            simp only [List.getElem?_map, hma, hmb, Option.map_some, Option.some.injEq] at h1
            exact h1
          have hy6 : y5 = y6 := congrArg Prod.fst hxe
          have hi6 : i5 = i6 := congrArg (fun z => z.2.1) hxe
          have HFE : Hid (l5.filter (fun z => decide (z.1 ≠ 6)) = l6.filter (fun z => decide (z.1 ≠ 6))) := Lib.hid (congrArg (fun z => z.2.2) hxe)
          subst hy6 hi6
          have HP5 : Hid (RiseP (y5, i5, l5) ∧ RiseP (y5, i5, l6)) := Lib.hid ⟨HRA.out _ (List.mem_of_getElem? hma), HRB.out _ (List.mem_of_getElem? hmb)⟩
          obtain ⟨⟨q0, q1, q2⟩, r0, r1, r2⟩ : (wq.cell? ⟨ga, j * 3, none⟩ = some (.int .i64 y5) ∧ wq.cell? ⟨ga, j * 3 + 1, none⟩ = some (.int .i64 i5) ∧ wq.cell? ⟨ga, j * 3 + 2, none⟩ = some (.slice A5 l5.length c5)) ∧ wq.cell? ⟨gb, j * 3, none⟩ = some (.int .i64 y5) ∧ wq.cell? ⟨gb, j * 3 + 1, none⟩ = some (.int .i64 i5) ∧ wq.cell? ⟨gb, j * 3 + 2, none⟩ = some (.slice A6 l6.length c6) := by
            have ra := hrwa.below HBQ.out hrwa.lt
            have rb := hrwb.below HBQ.out hrwb.lt
            exact ⟨⟨ra.cell hxa (j := 0) rfl, ra.cell hxa (j := 1) rfl, ra.cell hxa (j := 2) rfl⟩, rb.cell hxb (j := 0) rfl, rb.cell hxb (j := 1) rfl, rb.cell hxb (j := 2) rfl⟩
          have HSL : Hid (∀ W, Below wq.heap.size wq W → Sl encLi 3 W W.heap.size A5 l5 ∧ Sl encLi 3 W W.heap.size A6 l6) := Lib.hid (fun W hW => ⟨ownSlc encLi_len ((HOA.out.1.below (bTrans HBQ.out hW)).2 _ (List.mem_of_getElem? hxa)), ownSlc encLi_len ((HOA.out.2.below (bTrans HBQ.out hW)).2 _ (List.mem_of_getElem? hxb))⟩)
          have HC5 : Hid (l5.length ≤ 448 ∧ l5.length ≤ c5 ∧ c5 ≤ 9223372036854775807 ∧ (A5 = none → c5 = 0)) := Lib.hid ⟨HP5.out.1.2.2, ownCap (HOA.out.1.2 _ (List.mem_of_getElem? hxa))⟩
          have HC6 : Hid (l6.length ≤ 448 ∧ l6.length ≤ c6 ∧ c6 ≤ 9223372036854775807 ∧ (A6 = none → c6 = 0)) := Lib.hid ⟨HP5.out.2.2.2, ownCap (HOA.out.2.2 _ (List.mem_of_getElem? hxb))⟩
          have hga : ga < wq.heap.size := (hrwa.below HBQ.out hrwa.lt).lt
          have hgb : gb < wq.heap.size := (hrwb.below HBQ.out hrwb.lt).lt
          have hn1 : ga ≠ wq.heap.size ∧ ga ≠ wq.heap.size + 1 ∧ gb ≠ wq.heap.size ∧ gb ≠ wq.heap.size + 1 := by omega
          obtain ⟨hn1, hn2, hn3, hn4⟩ := hn1
          clear hxa hxb hma hmb hxe hrwa hrwb
          go_upto_region 21 with fail
          go_cut [16, 17] from 80 to 87 (fun a b wx => ∃ xb yb, a = .pointer (some ⟨xb, 0, none⟩) ∧ b = .pointer (some ⟨yb, 0, none⟩) ∧ Hid (xb ≠ yb ∧ wq.heap.size ≤ xb ∧ wq.heap.size ≤ yb ∧ Bk xb 41 #[.int .i64 y5, .int .i64 i5, .slice A5 l5.length c5] wx ∧ Bk yb 41 #[.int .i64 y5, .int .i64 i5, .slice A6 l6.length c6] wx) ∧ Hid (Below wq.heap.size wq wx))
          case first =>
            go_region
            · go_wp2
              go_meet
              have t2 := twoNew wq #[.int .i64 y5, .int .i64 i5, .slice A5 l5.length c5] #[.int .i64 y5, .int .i64 i5, .slice A6 l6.length c6] 41
              exact ⟨wq.heap.size, wq.heap.size + 1, rfl, rfl, Lib.hid ⟨by omega, Nat.le_refl _, Nat.le_succ _, t2.1, t2.2.1⟩, Lib.hid t2.2.2⟩
            · go_wp2
              go_meet
              have t2 := twoNew wq #[.int .i64 y5, .int .i64 i5, .slice A6 l6.length c6] #[.int .i64 y5, .int .i64 i5, .slice A5 l5.length c5] 41
              exact ⟨wq.heap.size + 1, wq.heap.size, rfl, rfl, Lib.hid ⟨by omega, Nat.le_succ _, Nat.le_refl _, t2.2.1, t2.1⟩, Lib.hid t2.2.2⟩
          case rest =>
          obtain ⟨xb, yb, rfl, rfl, HXY, HBX⟩ := hcut
          rename World => wx
          clear q0 q1 q2 r0 r1 r2 hga hgb hn1 hn2 hn3 hn4
          go_wp2_with fail
          go_loopg [] l5.length (fun kk wz => ∃ (k : Nat), k ≤ kk ∧ k ≤ l5.length ∧ Hid (Bk xb 41 #[.int .i64 y5, .int .i64 i5, .slice A5 k c5] wz ∧ Bk yb 41 #[.int .i64 y5, .int .i64 i5, .slice A6 l6.length c6] wz) ∧ Hid ((l5.take k).filter (fun z => decide (z.1 ≠ 6)) = l5.filter (fun z => decide (z.1 ≠ 6))) ∧ Hid (Below wq.heap.size wq wz))
          case atStart => exact ⟨l5.length, Nat.le_refl _, Nat.le_refl _, Lib.hid ⟨HXY.out.2.2.2.1, HXY.out.2.2.2.2⟩, Lib.hid (by rw [List.take_length]), HBX⟩
          case round =>
            obtain ⟨k, hk1, hk2, HBK, HFI, HBZ⟩ := hrel
            rename World => wz
            have z2 : wz.cell? ⟨xb, 2, none⟩ = some (.slice A5 k c5) := HBK.out.1.cell 2
            have h448 := HC5.out.1
            go_upto_region 22 with fail
            go_cut [103] from 88 to 102 (fun a wy => ∃ Bq : Bool, a = .bool Bq ∧ wz = wy ∧ Hid ((Bq = true → ∃ k', k = k' + 1 ∧ (l5.take k').filter (fun z => decide (z.1 ≠ 6)) = l5.filter (fun z => decide (z.1 ≠ 6))) ∧ (Bq = false → l5.take k = l5.filter (fun z => decide (z.1 ≠ 6)))))
            case first =>
              by_cases h0 : k = 0
              · have HC : Hid (l5.take k = l5.filter (fun z => decide (z.1 ≠ 6))) := Lib.hid (by rw [← HFI.out, h0]; rfl)
                subst h0
                go_wp2
                go_meet
                exact ⟨false, rfl, rfl, Lib.hid ⟨fun h => (by cases h), fun _ => HC.out⟩⟩
              · obtain ⟨k', rfl⟩ : ∃ k', k = k' + 1 := ⟨k - 1, by omega⟩
                obtain ⟨b, off, rfl, hB, hc⟩ := (HSL.out wz HBZ.out).1 (by intro h; rw [h] at hk2; simp at hk2)
                obtain ⟨⟨p, s, v⟩, hx⟩ : ∃ x, l5[k']? = some x := ⟨_, List.getElem?_eq_getElem (by omega)⟩
                have C0 : wz.cell? ⟨b, off + k' * 3, none⟩ = some (.int .i64 p) := by simpa using hc k' _ hx 0 _ rfl
                have hw : IntKind.i64.wrap (((k' + 1 : Nat) : Int) - 1) = k' := by rw [IntKind.wrap_i64]; omega
                have ht : l5.take (k' + 1) = l5.take k' ++ [(p, s, v)] := by rw [List.take_add_one, hx]; rfl
                by_cases hp : p = 6
                · have d6 : (p == 6) = true := beq_iff_eq.2 hp
                  have HC : Hid ((l5.take k').filter (fun z => decide (z.1 ≠ 6)) = l5.filter (fun z => decide (z.1 ≠ 6))) := Lib.hid (by
                    have h := HFI.out
                    rw [ht, List.filter_append] at h
                    rw [← h, List.filter_cons_of_neg (by simpa using hp)]
                    simp)
                  clear hp ht hx hc
                  go_wp2
                  go_meet
                  exact ⟨true, rfl, rfl, Lib.hid ⟨fun _ => ⟨k', rfl, HC.out⟩, fun h => (by cases h)⟩⟩
                · have d6 : (p == 6) = false := beq_eq_false_iff_ne.2 hp
                  have HC : Hid (l5.take (k' + 1) = l5.filter (fun z => decide (z.1 ≠ 6))) := Lib.hid (by
                    rw [← HFI.out]
                    exact (rise_cut HP5.out.1.1 HP5.out.1.2.1 (Nat.succ_pos k') hx hp).symm)
                  clear hp ht hx hc
                  go_wp2
                  go_meet
                  exact ⟨false, rfl, rfl, Lib.hid ⟨fun h => (by cases h), fun _ => HC.out⟩⟩
            case rest =>
            obtain ⟨Bq, rfl, rfl, HC⟩ := hcut
            cases Bq with
            | true =>
              obtain ⟨k', hkk, hf⟩ := HC.out.1 rfl
              subst hkk
              have HF2 := Lib.hid hf
              have hw : IntKind.i64.wrap (((k' + 1 : Nat) : Int) - 1) = k' := by rw [IntKind.wrap_i64]; omega
              have hfz : wz.frozen? ⟨xb, 2, none⟩ = false := HBK.out.1.frozen 2
              have HB2 : Hid (Bk xb 41 #[.int .i64 y5, .int .i64 i5, .slice A5 k' c5] (wz.setCell ⟨xb, 2, none⟩ (.slice A5 k' c5)) ∧ Bk yb 41 #[.int .i64 y5, .int .i64 i5, .slice A6 l6.length c6] (wz.setCell ⟨xb, 2, none⟩ (.slice A5 k' c5))) := Lib.hid ⟨HBK.out.1.set_ 2 _, bkSetO HBK.out.2 HXY.out.1 _ _⟩
              have HZ2 : Hid (Below wq.heap.size wq (wz.setCell ⟨xb, 2, none⟩ (.slice A5 k' c5))) := Lib.hid (HBZ.out.setCell (by have := HXY.out; show wq.heap.size ≤ xb; omega) _)
              clear hf HC
              go_wp2_with (refine wpList_runV rfl _ (run_cutLoL rfl rfl rfl (show k' ≤ k' + 1 by omega) (Nat.le_trans hk2 HC5.out.2.1) HC5.out.2.2.1 HC5.out.2.2.2) ?_)
              go_roundg k'
              case measure => omega
              case rel => exact ⟨k', Nat.le_refl _, by omega, HB2, HF2, HZ2⟩
            | false =>
            have HX1 : Hid (l5.take k = l5.filter (fun z => decide (z.1 ≠ 6))) := Lib.hid (HC.out.2 rfl)
            clear HC z2
            have HBK1 := HBK
            have HBZ1 := HBZ
            have hk51 := hk2
            clear HBK HBZ hk1 HFI
            go_wp2_with fail
            go_loopg [] l6.length (fun kk wz => ∃ (k2 : Nat), k2 ≤ kk ∧ k2 ≤ l6.length ∧ Hid (Bk xb 41 #[.int .i64 y5, .int .i64 i5, .slice A5 k c5] wz ∧ Bk yb 41 #[.int .i64 y5, .int .i64 i5, .slice A6 k2 c6] wz) ∧ Hid ((l6.take k2).filter (fun z => decide (z.1 ≠ 6)) = l6.filter (fun z => decide (z.1 ≠ 6))) ∧ Hid (Below wq.heap.size wq wz))
            case atStart => exact ⟨l6.length, Nat.le_refl _, Nat.le_refl _, HBK1, Lib.hid (by rw [List.take_length]), HBZ1⟩
            case round =>
              obtain ⟨k2, hk1, hk2, HBK, HFI, HBZ⟩ := hrel
              rename World => wz
              have z2 : wz.cell? ⟨yb, 2, none⟩ = some (.slice A6 k2 c6) := HBK.out.2.cell 2
              have h448 := HC6.out.1
              go_upto_region 24 with fail
              go_cut [127] from 112 to 126 (fun a wy => ∃ Bq : Bool, a = .bool Bq ∧ wz = wy ∧ Hid ((Bq = true → ∃ k', k2 = k' + 1 ∧ (l6.take k').filter (fun z => decide (z.1 ≠ 6)) = l6.filter (fun z => decide (z.1 ≠ 6))) ∧ (Bq = false → l6.take k2 = l6.filter (fun z => decide (z.1 ≠ 6)))))
              case first =>
                by_cases h0 : k2 = 0
                · have HC : Hid (l6.take k2 = l6.filter (fun z => decide (z.1 ≠ 6))) := Lib.hid (by rw [← HFI.out, h0]; rfl)
                  subst h0
                  go_wp2
                  go_meet
                  exact ⟨false, rfl, rfl, Lib.hid ⟨fun h => (by cases h), fun _ => HC.out⟩⟩
                · obtain ⟨k', rfl⟩ : ∃ k', k2 = k' + 1 := ⟨k2 - 1, by omega⟩
                  obtain ⟨b, off, rfl, hB, hc⟩ := (HSL.out wz HBZ.out).2 (by intro h; rw [h] at hk2; simp at hk2)
                  obtain ⟨⟨p, s, v⟩, hx⟩ : ∃ x, l6[k']? = some x := ⟨_, List.getElem?_eq_getElem (by omega)⟩
                  have C0 : wz.cell? ⟨b, off + k' * 3, none⟩ = some (.int .i64 p) := by simpa using hc k' _ hx 0 _ rfl
                  have hw : IntKind.i64.wrap (((k' + 1 : Nat) : Int) - 1) = k' := by rw [IntKind.wrap_i64]; omega
                  have ht : l6.take (k' + 1) = l6.take k' ++ [(p, s, v)] := by rw [List.take_add_one, hx]; rfl
                  by_cases hp : p = 6
                  · have d6 : (p == 6) = true := beq_iff_eq.2 hp
                    have HC : Hid ((l6.take k').filter (fun z => decide (z.1 ≠ 6)) = l6.filter (fun z => decide (z.1 ≠ 6))) := Lib.hid (by
                      have h := HFI.out
                      rw [ht, List.filter_append] at h
                      rw [← h, List.filter_cons_of_neg (by simpa using hp)]
                      simp)
                    clear hp ht hx hc
                    go_wp2
                    go_meet
                    exact ⟨true, rfl, rfl, Lib.hid ⟨fun _ => ⟨k', rfl, HC.out⟩, fun h => (by cases h)⟩⟩
                  · have d6 : (p == 6) = false := beq_eq_false_iff_ne.2 hp
                    have HC : Hid (l6.take (k' + 1) = l6.filter (fun z => decide (z.1 ≠ 6))) := Lib.hid (by
                      rw [← HFI.out]
                      exact (rise_cut HP5.out.2.1 HP5.out.2.2.1 (Nat.succ_pos k') hx hp).symm)
                    clear hp ht hx hc
                    go_wp2
                    go_meet
                    exact ⟨false, rfl, rfl, Lib.hid ⟨fun h => (by cases h), fun _ => HC.out⟩⟩
              case rest =>
              obtain ⟨Bq, rfl, rfl, HC⟩ := hcut
              cases Bq with
              | true =>
                obtain ⟨k', hkk, hf⟩ := HC.out.1 rfl
                subst hkk
                have HF2 := Lib.hid hf
                have hw : IntKind.i64.wrap (((k' + 1 : Nat) : Int) - 1) = k' := by rw [IntKind.wrap_i64]; omega
                have hfz : wz.frozen? ⟨yb, 2, none⟩ = false := HBK.out.2.frozen 2
                have HB2 : Hid (Bk xb 41 #[.int .i64 y5, .int .i64 i5, .slice A5 k c5] (wz.setCell ⟨yb, 2, none⟩ (.slice A6 k' c6)) ∧ Bk yb 41 #[.int .i64 y5, .int .i64 i5, .slice A6 k' c6] (wz.setCell ⟨yb, 2, none⟩ (.slice A6 k' c6))) := Lib.hid ⟨bkSetO HBK.out.1 (Ne.symm HXY.out.1) _ _, HBK.out.2.set_ 2 _⟩
                have HZ2 : Hid (Below wq.heap.size wq (wz.setCell ⟨yb, 2, none⟩ (.slice A6 k' c6))) := Lib.hid (HBZ.out.setCell (by have := HXY.out; show wq.heap.size ≤ yb; omega) _)
                clear hf HC
                go_wp2_with (refine wpList_runV rfl _ (run_cutLoL rfl rfl rfl (show k' ≤ k' + 1 by omega) (Nat.le_trans hk2 HC6.out.2.1) HC6.out.2.2.1 HC6.out.2.2.2) ?_)
                go_roundg k'
                case measure => omega
                case rel => exact ⟨k', Nat.le_refl _, by omega, HB2, HF2, HZ2⟩
              | false =>
              have HX2 : Hid (l6.take k2 = l6.filter (fun z => decide (z.1 ≠ 6))) := Lib.hid (HC.out.2 rfl)
              clear HC z2
              have hkk : k2 = k := by
                have h := congrArg List.length (HX1.out.trans (HFE.out.trans HX2.out.symm))
                rw [List.length_take, List.length_take] at h
                omega
              subst hkk
              have HSA : Hid (Calls Tryz.prog 14 #[.agg #[.int .i64 y5, .int .i64 i5, .slice A5 k2 c5], .agg #[.int .i64 y5, .int .i64 i5, .slice A6 k2 c6]] wz fun e w' => e = .returned (.bool true) ∧ Below wz.heap.size wz w') := Lib.hid (by
                have hs := HSL.out wz HBZ.out
                have he : l6.take k2 = l5.take k2 := (HX1.out.trans (HFE.out.trans HX2.out.symm)).symm
                have h2 := slTake hs.2 k2
                rw [he] at h2
                have h := la_same y5 i5 (l5.take k2) A5 A6 c5 c6 wz (by rw [List.length_take]; have := HC5.out.1; omega) (slTake hs.1 k2) h2
                rw [List.length_take, Nat.min_eq_left hk51] at h
                exact h)
              have x0 : wz.cell? ⟨xb, 0, none⟩ = some (.int .i64 y5) := HBK.out.1.cell 0
              have x1 : wz.cell? ⟨xb, 1, none⟩ = some (.int .i64 i5) := HBK.out.1.cell 1
              have x2 : wz.cell? ⟨xb, 2, none⟩ = some (.slice A5 k2 c5) := HBK.out.1.cell 2
              have u0 : wz.cell? ⟨yb, 0, none⟩ = some (.int .i64 y5) := HBK.out.2.cell 0
              have u1 : wz.cell? ⟨yb, 1, none⟩ = some (.int .i64 i5) := HBK.out.2.cell 1
              have u2 : wz.cell? ⟨yb, 2, none⟩ = some (.slice A6 k2 c6) := HBK.out.2.cell 2
              go_wp2_with (go_at_call 14; refine HSA.out.mono ?_; rintro e w7 ⟨rfl, hb7⟩)
              go_roundg (rs.length - (j + 1))
              case measure => omega
              case rel => exact ⟨j + 1, by omega, by go_num, Lib.hid (bTrans HBQ.out (bTrans HBZ.out hb7))⟩
        · obtain rfl : j = rs.length := by omega
          have HBF : Hid (Below w.heap.size w wq) := Lib.hid (bTrans HB5.out HBQ.out)
          have hlen : rt.length = rs.length := HLN.out.2
          have dln : ((rs.length : Int) == (rt.length : Int)) = true := by rw [hlen]; simp
          clear hlen
          go_wp2_with (go_at_call 10; refine (HAW.out _ HBF.out).mono ?_; rintro e w6 ⟨rfl, hb6⟩)
          go_ret
          exact ⟨rfl, bTrans HBF.out hb6⟩
end Go.Proofs.YtgepbkldgnjpfaaGreatDoor
