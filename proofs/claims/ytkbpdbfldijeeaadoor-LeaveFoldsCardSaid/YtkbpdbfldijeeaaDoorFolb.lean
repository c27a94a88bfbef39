/- Contract of leave.Fold, where nothing is wrong. -/
import Derived.Test.YtkbpdbfldijeeaaDoorFold
namespace Go.Proofs.YtkbpdbfldijeeaaDoor
open Go.RowKit Go.Sort Go.BigFrame

/-- The sort of a row of the call's own. -/
theorem sortOwn (B N : Nat) (v : Value) (L : List El) (w : World) (hN : L.length = N) (hn : N ≤ 1000000) (h : Own enc 2 56 B v L w) :
    ∃ A cap, v = .slice A N cap ∧ Calls Tryd.prog 22 #[.slice A N cap, .func (.func 23) #[] #[]] w fun e w' =>
      e = .returned (.tuple #[]) ∧ w.grownBy w' v.ownBlock ∧ Sl enc 2 w' w'.heap.size A (ss lt L) ∧ ∀ b t cs, Bk b t cs w → t ≠ 56 → some b ≠ v.ownBlock := by
  subst hN
  by_cases h0 : L = []
  · subst h0
    rcases h.2 with ⟨rfl, _⟩ | ⟨g, cap, cur, rfl, hb, hg, hn0, hcm, hcs, ht⟩
    · exact ⟨none, 0, rfl, (sortNil _ w).mono fun e w' hh => ⟨hh.1, hh.2 ▸ World.grownBy.refl _ _, fun hl => absurd rfl hl, fun b t cs _ _ => by simp [Value.ownBlock]⟩⟩
    · have hr : Row g cap [] w := ⟨cur, hg, hcs, by simp, fun i x hx => by simp at hx⟩
      exact ⟨some ⟨g, 0, none⟩, cap, rfl, (sortStable g cap [] w (by simp) hr).mono fun e w' hh => ⟨hh.1, hh.2.1, fun hl => absurd rfl hl, fun b t cs hb hne => h.ne_ hb (Ne.symm hne)⟩⟩
  · obtain ⟨g, cap, rfl, hb, hr⟩ := h.row enc_len h0
    exact ⟨some ⟨g, 0, none⟩, cap, rfl, (sortStable g cap L w hn hr).mono fun e w' hh => ⟨hh.1, hh.2.1, fun _ => ⟨g, 0, rfl, hh.2.2.lt, fun i x hx j u hu => by rw [Nat.zero_add]; exact hh.2.2.cell hx hu⟩, fun b t cs hb hne => h.ne_ hb (Ne.symm hne)⟩⟩

theorem lies_step {x : De} {a b c : World} {B : Nat} {v : Value} {L : List El} (h : Lies x a) (g : Grows a b) (ho : Own enc 2 56 B v L b) (k : b.grownBy c v.ownBlock) : Lies x c :=
  (h.kept (g.grownBy none) (fun _ _ => by simp)).kept k (fun _ hb => ho.ne_ hb (by decide))
theorem bk_step {b0 : Nat} {t : TypeId} {cs : Array Value} {a b c : World} {B : Nat} {v : Value} {L : List El} (h : Bk b0 t cs a) (g : Grows a b) (ho : Own enc 2 56 B v L b) (k : b.grownBy c v.ownBlock) (hne : 56 ≠ t) : Bk b0 t cs c :=
  (h.grows g).grownBy k (ho.ne_ (h.grows g) hne)
theorem moveOps_succ {l : List Mv} {k : Nat} {x : Mv} (h : l[k]? = some x) : moveOps (l.take (k + 1)) = moveOps (l.take k) ++ [(x.1, Op.move x.2.1 x.2.2)] := by
  unfold moveOps
  rw [List.take_add_one, h]
  simp

set_option maxHeartbeats 2000000 in
theorem lv_Fold_ok (yr ca ex un : Int) (l : List Mv) (A : Option Addr) (cap : Nat) (w : World) (hl : l.length ≤ 9223372036854775807) (hun : -9223372036854775808 ≤ un ∧ un ≤ 9223372036854775807) (hdy : ∀ x ∈ l, -9223372036854775808 ≤ x.1 ∧ x.1 ≤ 9223372036854775807)
    (ht : Tab w) (hs : Sl encM 3 w w.heap.size A l) (he : chkV yr ca ex un l = 0) :
    Calls Tryd.prog 10 #[.agg #[.int .i64 yr, .int .i64 ca, .int .i64 ex], .int .i64 un, .slice A l.length cap] w fun e w' =>
      e = .returned (.tuple #[.agg #[.int .i64 (foldV yr ca ex un l).1, .int .i64 (foldV yr ca ex un l).2.1, .int .i64 (foldV yr ca ex un l).2.2.1, .int .i64 (foldV yr ca ex un l).2.2.2], .int .i64 0]) ∧ Below w.heap.size w w' := by
  have g0 : ∀ o o', Grows w ((w.alloc o).alloc o') := fun o o' => (Grows.of_alloc _ _).trans (.of_alloc _ _)
  have HC := Lib.hid (fun o o' => lv_check yr ca ex un l A cap ((w.alloc o).alloc o') hl hun hdy (ht.grows (g0 o o')) ((hs.grows (g0 o o') (Nat.le_refl _)).more (g0 o o').size))
  rw [he] at HC
  obtain ⟨PL0, BZ0⟩ := chkV_zero he
  have PL := Lib.hid PL0
  have BZ := Lib.hid BZ0
  have np := PL0.plan
  unfold noPlan at np
  have n1 : 1900 ≤ yr := by omega
  have n2 : yr ≤ 2199 := by omega
  have n3 : 0 ≤ ca := by omega
  have n4 : ca ≤ 1000000 := by omega
  have n5 : 0 ≤ ex := by omega
  have n6 : ex ≤ 12 := by omega
  have n7 : l.length ≤ 4096 := by have := PL0.few; omega
  have HS := Lib.hid hs
  have hmf : ∀ (fn : Fn) (first cap : Array Value) (w : World), (Instr.makeFunc fn first cap).run Tryd.prog w = .ok (.func fn first cap) w := fun _ _ _ _ => rfl
  clear hs hdy he PL0 BZ0 np
  go_enter Tryd.func10, Tryd.ntmps10
  go_wp2_with fail
  refine (HC.out _ _).mono ?_
  rintro e w1 ⟨rfl, hg⟩
  have hR : Bk (w.heap.size + 1) 28 #[.int .i64 0, .int .i64 0, .int .i64 0, .int .i64 0] w1 := by
    have h := Bk.new (w.alloc (.cells #[.int .i64 yr, .int .i64 ca, .int .i64 ex] 23)) 28 #[.int .i64 0, .int .i64 0, .int .i64 0, .int .i64 0]
    have e : (w.alloc (.cells #[.int .i64 yr, .int .i64 ca, .int .i64 ex] 23)).heap.size = w.heap.size + 1 := by simp
    rw [e] at h
    exact h.grows hg
  have hP : Bk w.heap.size 23 #[.int .i64 yr, .int .i64 ca, .int .i64 ex] w1 := ((Bk.new w 23 #[.int .i64 yr, .int .i64 ca, .int .i64 ex]).grows (.of_alloc _ _)).grows hg
  have gw := (g0 _ _).trans hg
  obtain ⟨pb, hpb⟩ : ∃ x, w.heap.size = x := ⟨_, rfl⟩
  obtain ⟨rb, hrb⟩ : ∃ x, pb + 1 = x := ⟨_, rfl⟩
  have hrs : w.heap.size ≤ rb := by omega
  rw [hpb] at hP hR ⊢
  rw [hrb] at hR ⊢
  have p0 : w1.cell? ⟨pb, 0, none⟩ = some (.int .i64 yr) := hP.cell 0
  have p1 : w1.cell? ⟨pb, 1, none⟩ = some (.int .i64 ca) := hP.cell 1
  have p2 : w1.cell? ⟨pb, 2, none⟩ = some (.int .i64 ex) := hP.cell 2
  have HR := Lib.hid hR
  have HB0 := Lib.hid hpb
  clear hR hrb hg HC g0 hP hpb
  go_wp2_with fail
  obtain ⟨w2, hw2⟩ : ∃ x, (w1.alloc (.cells (foC yr ca ex fo0) 51)).alloc (.cells #[.pointer (some ⟨w1.heap.size, 0, none⟩)] 49) = x := ⟨_, rfl⟩
  have hz1 : (w1.alloc (.cells (foC yr ca ex fo0) 51)).heap.size = w1.heap.size + 1 := by simp
  have hV : Bk (w1.heap.size + 1) 49 #[.pointer (some ⟨w1.heap.size, 0, none⟩)] w2 := by
    have h := Bk.new (w1.alloc (.cells (foC yr ca ex fo0) 51)) 49 #[.pointer (some ⟨w1.heap.size, 0, none⟩)]
    rw [hz1] at h
    exact hw2 ▸ h
  have hF : Fd w1.heap.size yr ca ex fo0 w2 := hw2 ▸ (Bk.new w1 _ _).grows (.of_alloc _ _)
  have g2 : Grows w1 w2 := hw2 ▸ (Grows.of_alloc _ _).trans (.of_alloc _ _)
  have gw2 := gw.trans g2
  have hR2 := HR.out.grows g2
  change Calls _ _ _ ((w1.alloc (.cells (foC yr ca ex fo0) 51)).alloc (.cells #[.pointer (some ⟨w1.heap.size, 0, none⟩)] 49)) _
  rw [hw2]
  obtain ⟨fb, hfb⟩ : ∃ x, w1.heap.size = x := ⟨_, rfl⟩
  obtain ⟨fv, hfv⟩ : ∃ x, fb + 1 = x := ⟨_, rfl⟩
  rw [hfb] at hV hF ⊢
  rw [hfv] at hV ⊢
  have HR2 := Lib.hid hR2
  have HV2 := Lib.hid hV
  have HF2 := Lib.hid hF
  have HS2 := Lib.hid (HS.out.grows gw2 (Nat.le_refl _))
  have T2 := ht.grows gw2
  have z2 := gw2.size
  have GW2 := Lib.hid gw2.below
  have HLE : Hid (w.heap.size ≤ rb ∧ w.heap.size ≤ fb) := Lib.hid ⟨hrs, hfb ▸ gw.size⟩
  clear hw2 hz1 hV hF g2 gw2 hR2 hfb hfv gw p0 p1 p2 HR HS ht HB0 hrs
  refine (fo_deeds fb yr ca ex fo0 w2 T2 n1 n2 n5 n6 HF2.out).mono ?_
  rintro e w3 ⟨v3, rfl, hown, hb3⟩
  have hown3 : Own enc 2 56 w2.heap.size v3 ((yearsDe ex yr (2199 - yr).toNat ++ []).map (elOf fb fv)) w3 := by
    rw [List.append_nil, ← yearsEl_of]; exact hown
  clear hown
  have HO3 := Lib.hid hown3
  have HB3 := Lib.hid hb3
  clear hown3 hb3
  have hyl : (yearsDe ex yr (2199 - yr).toNat).length ≤ 600 := by
    unfold yearsDe; rw [List.length_map]; have := yearsOps_len ex yr (2199 - yr).toNat; omega
  generalize hY : yearsDe ex yr (2199 - yr).toNat = Y at *
  have HY := Lib.hid hY
  clear hY
  go_wp2
  go_loopw [10, 30] (fun v iv wr => ∃ (k : Nat) (M : List De), k ≤ l.length ∧ iv = .int .i64 k ∧ Hid (M.map De.o = moveOps (l.take k)) ∧ Hid (Own enc 2 56 w2.heap.size v ((Y ++ M).map (elOf fb fv)) wr) ∧ Hid (Below w2.heap.size w2 wr) ∧ Hid (∀ x ∈ M, Lies x wr)) (fun _ iv _ => l.length - (intOf iv).toNat)
  case atStart => exact ⟨0, [], Nat.zero_le _, rfl, Lib.hid rfl, HO3, HB3, Lib.hid (fun _ h => by cases h)⟩
  case round =>
    obtain ⟨k, M, hk, rfl, HM, HO, HB, HL⟩ := hrel
    by_cases hlt : k < l.length
    · obtain ⟨b, off, rfl, hB, hc⟩ := HS2.out (by intro h; simp [h] at hlt)
      obtain ⟨⟨d, gr, tk⟩, hx⟩ : ∃ x, l[k]? = some x := ⟨_, List.getElem?_eq_getElem hlt⟩
      have C0 : wr.cell? ⟨b, off + k * 3, none⟩ = some (.int .i64 d) := (HB.out.cell (p := ⟨b, _, none⟩) (Nat.lt_of_lt_of_le hB z2)).trans (by simpa using hc k _ hx 0 _ rfl)
      have C1 : wr.cell? ⟨b, off + k * 3 + 1, none⟩ = some (.int .i64 gr) := (HB.out.cell (p := ⟨b, _, none⟩) (Nat.lt_of_lt_of_le hB z2)).trans (hc k _ hx 1 _ rfl)
      have C2 : wr.cell? ⟨b, off + k * 3 + 2, none⟩ = some (.int .i64 tk) := (HB.out.cell (p := ⟨b, _, none⟩) (Nat.lt_of_lt_of_le hB z2)).trans (hc k _ hx 2 _ rfl)
      have HX := Lib.hid hx
      clear hx hc
      have hML : M.length = k := by
        have := congrArg List.length HM.out
        rw [List.length_map] at this
        rw [this]; unfold moveOps; rw [List.length_map, List.length_take]; omega
      have HLn : ((Y ++ M).map (elOf fb fv)).length + 1 ≤ 1000000000 := by rw [List.length_map, List.length_append]; omega
      clear hML
      go_upto_region 9 with fail
      obtain ⟨wa, hwa⟩ : ∃ x, wr.alloc (.cells #[.int .i64 d, .int .i64 gr, .int .i64 tk] 42) = x := ⟨_, rfl⟩
      obtain ⟨mb, hmb⟩ : ∃ x, wr.heap.size = x := ⟨_, rfl⟩
      have hMb : Bk mb 42 #[.int .i64 d, .int .i64 gr, .int .i64 tk] wa := hmb ▸ hwa ▸ Bk.new wr _ _
      have ga : Grows wr wa := hwa ▸ .of_alloc _ _
      rw [hwa, hmb]
      clear hwa hmb C0 C1 C2
      have m0 : wa.cell? ⟨mb, 0, none⟩ = some (.int .i64 d) := hMb.cell 0
      have HX3 : w2.heap.size ≤ wa.heap.size := Nat.le_trans HB.out.size ga.size
      have HMb := Lib.hid hMb
      clear hMb
      go_wp2_with ((at_builtin; refine wpList_append_row enc_len enc_one rfl _ _ 52 rfl w2.heap.size 56 _ 16 Tryd.underlying52 deedInfo rfl (by decide) _ _ (elOf fb fv ⟨d, .move gr tk, mb⟩) rfl ((HO.out.grows ga).alloc _) wa.heap.size 1 rfl (encNews _) HLn (by decide) (Nat.le_trans HX3 (Grows.of_alloc _ _).size) ?_))
      intro v4 w4 hown4 hgr4
      have HL4 := Lib.hid (fun x (hx : x ∈ M) => lies_step (HL.out x hx) (ga.trans (.of_alloc wa _)) ((HO.out.grows ga).alloc _) hgr4)
      have HX4 := Lib.hid (bk_step HMb.out (.of_alloc wa _) ((HO.out.grows ga).alloc _) hgr4 (by decide))
      have HB4 := Lib.hid (belowTrans (belowTrans HB.out (belowMono ga.below HB.out.size)) (belowTrans (belowMono (Grows.of_alloc wa _).below HX3) (grownBelow hgr4 (fun b hb => (HO.out.lt hb).1) (Nat.le_trans HX3 (Grows.of_alloc _ _).size))))
      have HO4 : Hid (Own enc 2 56 w2.heap.size v4 ((Y ++ (M ++ [(⟨d, .move gr tk, mb⟩ : De)])).map (elOf fb fv)) w4) := Lib.hid (by simpa using hown4)
      have HM4 : Hid ((M ++ [(⟨d, .move gr tk, mb⟩ : De)]).map De.o = moveOps (l.take (k + 1))) := Lib.hid (by rw [moveOps_succ HX.out, List.map_append, HM.out]; rfl)
      have HLL : Hid (∀ x ∈ M ++ [(⟨d, .move gr tk, mb⟩ : De)], Lies x w4) := Lib.hid (fun x hx => by
        rcases List.mem_append.1 hx with hx | hx
        · exact HL4.out x hx
        · rw [List.mem_singleton.1 hx]; exact HX4.out)
      clear hown4 hgr4 HL4 HX4 ga m0
      go_wp2
      exact ⟨⟨k + 1, _, by omega, by go_num, HM4, HO4, HB4, HLL⟩, by simp [intOf]; omega⟩
    · have hkl : k = l.length := by omega
      subst hkl
      have HM5 : Hid (M.map De.o = moveOps l) := Lib.hid (by have := HM.out; rwa [List.take_length] at this)
      have hML : M.length = l.length := by
        have := congrArg List.length HM5.out
        rw [List.length_map] at this
        rw [this]; unfold moveOps; rw [List.length_map]
      obtain ⟨N, hN⟩ : ∃ N, ((Y ++ M).map (elOf fb fv)).length = N := ⟨_, rfl⟩
      have hNl : N ≤ 5000 := by rw [← hN, List.length_map, List.length_append]; omega
      obtain ⟨A5, cap5, rfl, hso⟩ := sortOwn w2.heap.size N _ _ wr hN (by omega) HO.out
      have hob : ∀ b, (Value.slice A5 N cap5).ownBlock = some b → w2.heap.size ≤ b := fun b hb => (HO.out.lt hb).1
      have HOB := Lib.hid hob
      have HSO := Lib.hid hso
      have HSD : Hid (ss lt ((Y ++ M).map (elOf fb fv)) = (ss ltD (Y ++ M)).map (elOf fb fv)) := Lib.hid (ss_map (elOf fb fv) (elOf_lt fb fv) _)
      have HN : Hid ((ss ltD (Y ++ M)).length = N) := Lib.hid (by rw [← hN, List.length_map, ss_length])
      clear hso hob hML hN
      go_wp2_with fail
      refine (HSO.out).mono ?_
      rintro e w5 ⟨rfl, hg5, hs5, hne5⟩
      rw [HSD.out] at hs5
      have hb5 : Below w2.heap.size w2 w5 := belowTrans HB.out (grownBelow hg5 HOB.out HB.out.size)
      have HFr : Fd fb yr ca ex fo0 wr := (HB.out.block fb HF2.out.lt).trans HF2.out
      have hnf := hne5 fb _ _ HFr (by decide)
      have HF5 := Lib.hid (HFr.grownBy hg5 hnf)
      clear HFr
      have HV5 : Hid (Bk fv 49 #[.pointer (some ⟨fb, 0, none⟩)] w5) := Lib.hid ((hb5.block fv HV2.out.lt).trans HV2.out)
      have HR5 : Hid (Bk rb 28 #[.int .i64 0, .int .i64 0, .int .i64 0, .int .i64 0] w5) := Lib.hid ((hb5.block rb HR2.out.lt).trans HR2.out)
      have HL5 : Hid (∀ x ∈ ss ltD (Y ++ M), Lies x w5) := Lib.hid (fun x hx => by
        have hx := ((ss_perm (lt := ltD) (Y ++ M)).mem_iff).1 hx
        rcases List.mem_append.1 hx with hx | hx
        · have hY := HY.out ▸ hx
          rcases fine_years x hY with h | h <;> (unfold Lies; rw [h]; trivial)
        · exact (HL.out x hx).kept hg5 (fun cs hb => hne5 _ _ cs hb (by decide)))
      have HS5 := Lib.hid hs5
      have HB5 := Lib.hid hb5
      have HNF := Lib.hid hnf
      have HOR := Lib.hid (allOps_of (ex := ex) (yr := yr) HM5.out)
      rw [HY.out] at HOR
      have HFI : Hid (∀ x ∈ ss ltD (Y ++ M), x.op.fine) := Lib.hid (fun x hx => by
        have hx := ((ss_perm (lt := ltD) (Y ++ M)).mem_iff).1 hx
        rcases List.mem_append.1 hx with hx | hx
        · have hY := HY.out ▸ hx
          rcases fine_years x hY with h | h <;> (rw [h]; trivial)
        · have h1 : x.o ∈ moveOps l := HM5.out ▸ List.mem_map_of_mem hx
          unfold moveOps at h1
          obtain ⟨y, hy, he⟩ := List.mem_map.1 h1
          obtain ⟨i, hi, hiy⟩ := List.mem_iff_getElem.1 hy
          have h2 := (badM_zero (yr := yr) (l := l) (i := i) (x := y) (by rw [List.getElem?_eq_getElem hi, hiy]) (BZ.out i hi)).2.1
          unfold unfit at h2
          have h3 : x.op = .move y.2.1 y.2.2 := (congrArg Prod.snd he).symm
          rw [h3]
          exact ⟨by omega, by omega, by omega, by omega⟩)
      clear hnf hne5 hg5 hs5 hb5 HM HO HB HL HSO HSD HF2 HV2 HR2 HS2 HO3 HB3 HM5 HOB
      generalize hsd : ss ltD (Y ++ M) = SD at *
      clear hsd
      obtain ⟨wo, rfl⟩ : ∃ wo : World, wo = wr := ⟨_, rfl⟩
      go_wp2
      go_loopw [46] (fun iv wx => ∃ k : Nat, k ≤ N ∧ iv = .int .i64 k ∧ Hid (Fd fb yr ca ex (runO ca ex un ((SD.map De.o).take k) fo0) wx) ∧ Hid (w5.grownBy wx (some fb))) (fun iv _ => N - (intOf iv).toNat)
      case atStart => exact ⟨0, Nat.zero_le _, rfl, HF5, Lib.hid (World.grownBy.refl _ _)⟩
      case round =>
        obtain ⟨k, hk, rfl, HFk, HGk⟩ := hrel
        by_cases hlt : k < N
        · obtain ⟨x, hx⟩ : ∃ x, SD[k]? = some x := ⟨_, List.getElem?_eq_getElem (by rw [HN.out]; exact hlt)⟩
          have hxm := List.mem_of_getElem? hx
          have hfi := HFI.out x hxm
          have hli := HL5.out x hxm
          have hxe : (SD.map (elOf fb fv))[k]? = some (elOf fb fv x) := by rw [List.getElem?_map, hx]; rfl
          obtain ⟨g, off, rfl, hgl, hc⟩ := HS5.out (by intro h0; rw [h0] at hxe; simp at hxe)
          have hgf : some g ≠ some fb := fun h0 => HNF.out h0.symm
          have C0 : wr.cell? ⟨g, off + k * 2, none⟩ = some (.int .i64 x.day) := (World.cell?_of_block (a := ⟨g, _, none⟩) (HGk.out.block g hgl hgf)).trans (by rw [← elOf_day fb fv x]; exact hc k _ hxe 0 _ rfl)
          have C1 := (World.cell?_of_block (a := ⟨g, off + k * 2 + 1, none⟩) (HGk.out.block g hgl hgf)).trans (hc k _ hxe 1 _ rfl)
          have HTK : Hid (runO ca ex un ((SD.map De.o).take (k + 1)) fo0 = stepO ca ex un (runO ca ex un ((SD.map De.o).take k) fo0) x.o) := Lib.hid (by
            rw [List.take_add_one, List.getElem?_map, hx]; exact runO_snoc _ _ _ _ _ _)
          have HIN : Hid (Inv k (runO ca ex un ((SD.map De.o).take k) fo0)) := Lib.hid (by
            have h1 := inv_run (ca := ca) (ex := ex) (un := un) n3 ((SD.map De.o).take k) 0 fo0 inv0 (fun y hy => by
              obtain ⟨z, hz, rfl⟩ := List.mem_map.1 (List.mem_of_mem_take hy)
              exact HFI.out z hz)
            have h2 : ((SD.map De.o).take k).length = k := by rw [List.length_take, List.length_map, HN.out]; omega
            rw [h2, Nat.zero_add] at h1
            exact h1)
          generalize runO ca ex un ((SD.map De.o).take k) fo0 = s at *
          obtain ⟨day, op, mb⟩ := x
          have HX := Lib.hid hx
          clear hx hxm hxe hc hgf
          by_cases hd : day ≤ un
          · have HST : Hid (stepO ca ex un s (De.o ⟨day, op, mb⟩) = op.act ca ex s) := Lib.hid (if_pos hd)
            cases op with
            | turn =>
              have C2 : wr.cell? ⟨g, off + k * 2 + 1, none⟩ = some (.func (.func 34) #[.pointer (some ⟨fb, 0, none⟩)] #[]) := C1
              have st := store_func (P := Tryd.prog) (.func 34) #[.pointer (some ⟨fb, 0, none⟩)] #[]
              clear C1 hfi hli
              go_wp2_with fail
              refine (fo_turn fb k yr ca ex s _ (by omega) HIN.out n3 n4 (by exact HFk.out.grows (.of_alloc _ _))).mono ?_
              rintro e w6 ⟨rfl, hg6, hf6⟩
              have HF6 := Lib.hid hf6
              have HG6 := Lib.hid (gTrans (gTrans HGk.out ((Grows.of_alloc _ _).grownBy _)) hg6)
              clear hf6 hg6
              go_wp2
              exact ⟨⟨k + 1, by omega, by go_num, Lib.hid (by rw [HTK.out, HST.out]; exact HF6.out), HG6⟩, by simp [intOf]; omega⟩
            | lose =>
              have C2 : wr.cell? ⟨g, off + k * 2 + 1, none⟩ = some (.func (.func 36) #[.pointer (some ⟨fb, 0, none⟩)] #[]) := C1
              have st := store_func (P := Tryd.prog) (.func 36) #[.pointer (some ⟨fb, 0, none⟩)] #[]
              clear C1 hfi hli
              go_wp2_with fail
              refine (fo_lose fb k yr ca ex s _ (by omega) HIN.out (by exact HFk.out.grows (.of_alloc _ _))).mono ?_
              rintro e w6 ⟨rfl, hg6, hf6⟩
              have HF6 := Lib.hid hf6
              have HG6 := Lib.hid (gTrans (gTrans HGk.out ((Grows.of_alloc _ _).grownBy _)) hg6)
              clear hf6 hg6
              go_wp2
              exact ⟨⟨k + 1, by omega, by go_num, Lib.hid (by rw [HTK.out, HST.out]; exact HF6.out), HG6⟩, by simp [intOf]; omega⟩
            | move gr tk =>
              have HMb : Hid (Bk mb 42 #[.int .i64 day, .int .i64 gr, .int .i64 tk] wr) := Lib.hid (Bk.grownBy (show Bk mb 42 #[.int .i64 day, .int .i64 gr, .int .i64 tk] w5 from hli) HGk.out (by have := Bk.ne_ (show Bk mb 42 #[.int .i64 day, .int .i64 gr, .int .i64 tk] w5 from hli) HF5.out (by decide); simpa using this))
              have HVx : Hid (Bk fv 49 #[.pointer (some ⟨fb, 0, none⟩)] wr) := Lib.hid (HV5.out.grownBy HGk.out (by have := HV5.out.ne_ HF5.out (by decide); simpa using this))
              have C2 : wr.cell? ⟨g, off + k * 2 + 1, none⟩ = some (.func (.func 20) #[] #[.pointer (some ⟨fv, 0, none⟩), .pointer (some ⟨mb, 0, none⟩)]) := C1
              have st := store_func (P := Tryd.prog) (.func 20) #[] #[.pointer (some ⟨fv, 0, none⟩), .pointer (some ⟨mb, 0, none⟩)]
              clear hli C1
              go_wp2_with fail
              refine (fo_do fb fv mb k yr ca ex day gr tk s _ (by omega) HIN.out hfi.1 hfi.2.1 hfi.2.2.1 hfi.2.2.2 (by exact HFk.out.grows (.of_alloc _ _)) (by exact (HVx.out.grows (.of_alloc _ _)).cell 0) (by exact (HMb.out.grows (.of_alloc _ _)).cell 0) (by exact (HMb.out.grows (.of_alloc _ _)).cell 1) (by exact (HMb.out.grows (.of_alloc _ _)).cell 2)).mono ?_
              rintro e w6 ⟨rfl, hg6, hf6⟩
              have HF6 := Lib.hid hf6
              have HG6 := Lib.hid (gTrans (gTrans HGk.out ((Grows.of_alloc _ _).grownBy _)) hg6)
              clear hf6 hg6
              go_wp2
              exact ⟨⟨k + 1, by omega, by go_num, Lib.hid (by rw [HTK.out, HST.out]; exact HF6.out), HG6⟩, by simp [intOf]; omega⟩
          · have HST : Hid (stepO ca ex un s (De.o ⟨day, op, mb⟩) = s) := Lib.hid (if_neg hd)
            have hel : ∃ f a b, elOf fb fv ⟨day, op, mb⟩ = (day, f, a, b) := by cases op <;> exact ⟨_, _, _, rfl⟩
            obtain ⟨f, a, b, hel⟩ := hel
            rw [hel] at C1
            have C2 : wr.cell? ⟨g, off + k * 2 + 1, none⟩ = some (.func f a b) := C1
            have st := store_func (P := Tryd.prog) f a b
            clear hel hli C1 hfi
            go_wp2
            exact ⟨⟨k + 1, by omega, by go_num, Lib.hid (by rw [HTK.out, HST.out]; exact HFk.out.grows (.of_alloc _ _)), Lib.hid (gTrans HGk.out ((Grows.of_alloc _ _).grownBy _))⟩, by simp [intOf]; omega⟩
        · have hkN : k = N := by omega
          subst hkN
          have htk : (SD.map De.o).take k = allOps ex yr l := by rw [List.take_of_length_le (by rw [List.length_map, HN.out]; exact Nat.le_refl _), HOR.out]
          rw [htk] at HFk
          have HIN : Hid (Inv k (foldF yr ca ex un l)) := Lib.hid (by
            have h1 := inv_run (ca := ca) (ex := ex) (un := un) n3 ((SD.map De.o).take k) 0 fo0 inv0 (fun y hy => by
              obtain ⟨z, hz, rfl⟩ := List.mem_map.1 (List.mem_of_mem_take hy)
              exact HFI.out z hz)
            have h2 : ((SD.map De.o).take k).length = k := by rw [List.length_take, List.length_map, HN.out]; omega
            rw [h2, htk, Nat.zero_add] at h1
            exact h1)
          have HFk : Hid (Fd fb yr ca ex (foldF yr ca ex un l) wr) := HFk
          have HVL : Hid (foldV yr ca ex un l = ((foldF yr ca ex un l).g, (foldF yr ca ex un l).t, (foldF yr ca ex un l).e, (foldF yr ca ex un l).fr + (foldF yr ca ex un l).cr)) := Lib.hid rfl
          have HRx := HR5.out.grownBy HGk.out (by have := HR5.out.ne_ HF5.out (by decide); simpa using this)
          have HVx := HV5.out.grownBy HGk.out (by have := HV5.out.ne_ HF5.out (by decide); simpa using this)
          have HBx : Below w.heap.size w wr := belowTrans GW2.out (belowTrans (belowMono HB5.out z2) (grownBelow HGk.out (fun b hb => by cases hb; exact HLE.out.2) (Nat.le_trans z2 HB5.out.size)))
          clear htk
          generalize foldF yr ca ex un l = s at *
          obtain ⟨sg, st, se, sl, sf, sc⟩ := s
          have bd := HIN.out.bd
          simp only at bd
          have hv := HVx.cell 0
          have c0 : wr.cell? ⟨fb, 0, none⟩ = some (.int .i64 sg) := HFk.out.cell 0
          have c1 : wr.cell? ⟨fb, 1, none⟩ = some (.int .i64 st) := HFk.out.cell 1
          have c2 : wr.cell? ⟨fb, 2, none⟩ = some (.int .i64 se) := HFk.out.cell 2
          have c3 : wr.cell? ⟨fb, 3, none⟩ = some (.int .i64 sl) := HFk.out.cell 3
          have c7 : wr.cell? ⟨fb, 7, none⟩ = some (.int .i64 sf) := HFk.out.cell 7
          have c8 : wr.cell? ⟨fb, 8, none⟩ = some (.int .i64 sc) := HFk.out.cell 8
          have f3 : wr.frozen? ⟨fb, 3, none⟩ = false := HFk.out.frozen 3
          have hv : wr.cell? ⟨fv, 0, none⟩ = some (.pointer (some ⟨fb, 0, none⟩)) := hv
          have HRX := Lib.hid HRx
          have HBX := Lib.hid HBx
          have hne : ¬ rb = fb := HRx.ne_ HFk.out (by decide)
          have r0 : wr.cell? ⟨rb, 0, none⟩ = some (.int .i64 0) := HRx.cell 0
          have r1 : wr.cell? ⟨rb, 1, none⟩ = some (.int .i64 0) := HRx.cell 1
          have r2 : wr.cell? ⟨rb, 2, none⟩ = some (.int .i64 0) := HRx.cell 2
          have r3 : wr.cell? ⟨rb, 3, none⟩ = some (.int .i64 0) := HRx.cell 3
          have e0 : wr.frozen? ⟨rb, 0, none⟩ = false := HRx.frozen 0
          have e1 : wr.frozen? ⟨rb, 1, none⟩ = false := HRx.frozen 1
          have e2 : wr.frozen? ⟨rb, 2, none⟩ = false := HRx.frozen 2
          have e3 : wr.frozen? ⟨rb, 3, none⟩ = false := HRx.frozen 3
          clear HRx HVx HBx
          go_wp2
          go_region
          all_goals go_wp2
          obtain ⟨wz, hwz⟩ : ∃ x, (((((wr.setCell ⟨fb, 3, none⟩ (.int .i64 (sf + sc))).setCell ⟨rb, 0, none⟩ (.int .i64 sg)).setCell ⟨rb, 1, none⟩ (.int .i64 st)).setCell ⟨rb, 2, none⟩ (.int .i64 se)).setCell ⟨rb, 3, none⟩ (.int .i64 (sf + sc))).drew = x := ⟨_, rfl⟩
          have hz : Bk rb 28 #[.int .i64 sg, .int .i64 st, .int .i64 se, .int .i64 (sf + sc)] wz := hwz ▸ ((((((HRX.out.grownBy (gSet (g := fb) wr 3 (.int .i64 (sf + sc))) (by simpa using hne)).set_ 0 (.int .i64 sg)).set_ 1 (.int .i64 st)).set_ 2 (.int .i64 se)).set_ 3 (.int .i64 (sf + sc)))).drew
          have hb : Below w.heap.size w wz := hwz ▸ ((((((HBX.out.setCell (p := ⟨fb, 3, none⟩) HLE.out.2 _).setCell (p := ⟨rb, 0, none⟩) HLE.out.1 _).setCell (p := ⟨rb, 1, none⟩) HLE.out.1 _).setCell (p := ⟨rb, 2, none⟩) HLE.out.1 _).setCell (p := ⟨rb, 3, none⟩) HLE.out.1 _).drew)
          rw [hwz, HVL.out]
          have z0 : wz.cell? ⟨rb, 0, none⟩ = some (.int .i64 sg) := hz.cell 0
          have z1 : wz.cell? ⟨rb, 1, none⟩ = some (.int .i64 st) := hz.cell 1
          have z2 : wz.cell? ⟨rb, 2, none⟩ = some (.int .i64 se) := hz.cell 2
          have z3 : wz.cell? ⟨rb, 3, none⟩ = some (.int .i64 (sf + sc)) := hz.cell 3
          exact bodyPost_ret (v := .tuple #[.agg #[.int .i64 sg, .int .i64 st, .int .i64 se, .int .i64 (sf + sc)], .int .i64 0]) (by simp [results, Tryd.results10, go_sem, z0, z1, z2, z3]) rfl ⟨rfl, hb⟩
end Go.Proofs.YtkbpdbfldijeeaaDoor
