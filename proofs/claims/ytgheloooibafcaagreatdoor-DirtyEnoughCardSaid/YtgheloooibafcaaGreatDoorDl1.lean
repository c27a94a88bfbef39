import Derived.Test.YtgheloooibafcaaGreatDoorDl0
import Derived.Test.YtgheloooibafcaaGreatDoorAwk
import Derived.Test.YtgheloooibafcaaGreatDoorRegs
import Derived.Deep.DeepCutAuto
/- The law's told: a store of facts, told one by one. -/
namespace Go.Proofs.YtgheloooibafcaaGreatDoor
open Go.RowKit Go.Sort

theorem small_fit {L : List Fa} (h : smallB L = true) (hw : ∀ f ∈ L, 0 ≤ f.id ∧ f.id ≤ 4294967295 ∧ 0 ≤ f.pe ∧ f.pe ≤ 4294967295 ∧ (-9223372036854775808 ≤ f.ki ∧ f.ki ≤ 9223372036854775807) ∧ (-9223372036854775808 ≤ f.fr ∧ f.fr ≤ 9223372036854775807) ∧ (-9223372036854775808 ≤ f.to ∧ f.to ≤ 9223372036854775807) ∧ (-9223372036854775808 ≤ f.nu ∧ f.nu ≤ 9223372036854775807)) : (∀ f ∈ L, Fit f) ∧ L.length ≤ 40 := by
  obtain ⟨h1, h2⟩ := small_all h
  refine ⟨fun f hf => ?_, h2⟩
  obtain ⟨a, b, c, d, e, g, i, j⟩ := hw f hf
  have := h1 f hf
  unfold smallF at this
  rw [decide_eq_true_eq] at this
  exact ⟨⟨a, b⟩, ⟨c, d⟩, e, g, i, j, by omega, by omega⟩

structure Pd where
  sb : Nat
  b : Nat
  off : Nat
  n : Nat
  ca : Nat
  k : Nat
  A1 : Option Addr
  c1 : Nat
  T : List Fa
  N : List Fa
  en : Int
  x : Fa
/-- What a slot of told's round holds. -/
def SPd (p : Pd) (t : Nat) (v : Value) (w : World) : Prop := match t with
  | 0 | 16 => v = .slice (some ⟨p.b, p.off, none⟩) p.n p.ca
  | 3 => v = .pointer (some ⟨p.sb, 0, none⟩)
  | 4 | 17 => v = .int .i64 p.k
  | 15 => v = .agg #[.slice p.A1 p.T.length p.c1]
  | 18 => v = .pointer (some ⟨p.b, p.off + p.k * 8, none⟩)
  | 19 => v = .agg (FA p.x)
  | 14 | 20 => ∃ A2 c2, v = .tuple #[.agg #[.slice A2 p.N.length c2], .int .i64 p.en] ∧ p.N.length ≤ c2 ∧ SlF w A2 p.N
  | 21 => ∃ A2 c2, v = .agg #[.slice A2 p.N.length c2] ∧ p.N.length ≤ c2 ∧ SlF w A2 p.N
  | 6 | 22 => v = .int .i64 p.en
  | _ => True
theorem SPd.st (p : Pd) : ∀ t v w w', SPd p t v w → Below w.heap.size w w' → SPd p t v w' := by
  intro t v w w' h hb
  unfold SPd at h
  split at h
  all_goals first
    | exact h
    | (obtain ⟨A2, c2, h1, h2, h3⟩ := h; exact ⟨A2, c2, h1, h2, h3.below hb⟩)
    | (unfold SPd; split <;> first | trivial | (exfalso; simp_all))
theorem SPd.put_ (p : Pd) (t : Nat) (v : Value) (w : World) (b : Nat) (y x : Value) (hk : Bk b 27 #[y] w) (h : SPd p t v w) : SPd p t v (w.setCell ⟨b, 0, none⟩ x) := by
  unfold SPd at h
  split at h
  all_goals first
    | exact h
    | (obtain ⟨A2, c2, h1, h2, h3⟩ := h; exact ⟨A2, c2, h1, h2, h3.keepRe hk _⟩)
    | (unfold SPd; split <;> first | trivial | (exfalso; simp_all))
theorem SPd.free (p : Pd) (t : Nat) (v : Value) (w : World) (h : t ∉ [0, 3, 4, 15, 16, 17, 18, 19, 14, 20, 21, 22, 6]) : SPd p t v w := by
  unfold SPd
  split
  all_goals first | trivial | (exfalso; exact h (by simp))
set_option maxHeartbeats 4000000 in
set_option maxRecDepth 100000 in
theorem la_told32 (l : List Fa) (A : Option Addr) (ca : Nat) (w : World) (hl : l.length ≤ 40) (fl : ∀ f ∈ l, Fit f) (hL : SlF w A l) (hT : Tb w) :
    Calls Tryz.prog 17 #[.slice A l.length ca] w fun e w' => (∃ A2 c2, e = .returned (.agg #[.slice A2 (tellL [] l).length c2]) ∧ (tellL [] l).length ≤ c2 ∧ SlF w' A2 (tellL [] l)) ∧ Below w.heap.size w w' := by
  obtain ⟨rb, hrb⟩ : ∃ x, w.heap.size = x := ⟨_, rfl⟩
  obtain ⟨sb, hsb⟩ : ∃ x, rb + 1 = x := ⟨_, rfl⟩
  obtain ⟨w3, hw3⟩ : ∃ x, (w.alloc (.cells #[.slice none 0 0] 27)).alloc (.cells #[.slice none 0 0] 27) = x := ⟨_, rfl⟩
  obtain ⟨k1, k2, k3⟩ := bk2 w _ _ _ hrb hsb hw3
  have HR3 : Hid (Bk rb 27 #[.slice none 0 0] w3) := Lib.hid k1
  have HV3 : Hid (StV sb [] w3) := Lib.hid ⟨none, 0, k2, Nat.le_refl _, fun h => absurd rfl h⟩
  have HB3 := Lib.hid k3
  have HL := Lib.hid hL
  have HT := Lib.hid hT
  have HFI := Lib.hid fl
  have HRS : Hid (rb ≠ sb ∧ w.heap.size ≤ rb ∧ w.heap.size ≤ sb) := Lib.hid (by omega)
  have HE3 := Lib.hid (And.intro hrb (And.intro hsb hw3))
  clear k1 k2 k3 hL hT fl hrb hsb hw3
  go_enter Tryz.func17, Tryz.ntmps17
  go_upto_region 2 with fail
  rw [HE3.out.1, HE3.out.2.1, HE3.out.2.2]
  clear HE3
  go_wp2
  go_loopg [4] l.length (fun n iv wr => ∃ k : Nat, k + n = l.length ∧ iv = .int .i64 k ∧ Hid (StV sb (tellL [] (l.take k)) wr) ∧ Hid (Bk rb 27 #[.slice none 0 0] wr) ∧ Hid (Below w.heap.size w wr))
  case atStart => exact ⟨0, by omega, rfl, HV3, HR3, HB3⟩
  case round =>
    obtain ⟨k, hk, rfl, HV, HR, HB⟩ := hrel
    by_cases hlt : k < l.length
    · obtain ⟨b, off, rfl, hbl, hat⟩ := SlF.open_ (HL.out.below HB.out) (by intro h; simp [h] at hlt)
      obtain ⟨x, hx⟩ : ∃ x, l[k]? = some x := ⟨_, List.getElem?_eq_getElem hlt⟩
      have hat1 := hat k x hx
      have HNX := Lib.hid (tellL_take (L := []) hx)
      have HFF := Lib.hid (HFI.out x (List.mem_of_getElem? hx))
      have HLN : (tellL [] (l.take k)).length ≤ 4096 := by have := tellL_len (l.take k) []; rw [List.length_take] at this; (try simp only [List.length_nil] at this); omega
      obtain ⟨T, hTT⟩ : ∃ T, tellL [] (l.take k) = T := ⟨_, rfl⟩
      rw [hTT] at HNX HLN
      obtain ⟨A1, c1, hv1, hv2, hv3⟩ : StV sb T wr := by rw [← hTT]; exact HV.out
      obtain ⟨N, en, hN⟩ : ∃ N en, addL T x = (N, en) := ⟨_, _, rfl⟩
      have HNX2 : Hid (tellL [] (l.take (k + 1)) = N) := Lib.hid (by rw [HNX.out, hN])
      have HNO : Hid (en ≠ 0 → N = T) := Lib.hid fun he => by
        rcases addL_or T x with ⟨e, _, h⟩ | ⟨h, _⟩
        · rw [hN] at h; injection h with h _
        · rw [hN] at h; injection h with _ h; exact absurd h he
      have HLD : Hid (∀ W, Below wr.heap.size wr W → W.cell? ⟨sb, 0, none⟩ = some (.slice A1 T.length c1) ∧ At8 W b (off + k * 8) x) := Lib.hid fun W hW => ⟨bCell hW (hv1.cell 0), hat1.below hW⟩
      have HADD : Hid (∀ W, Below wr.heap.size wr W → Calls Tryz.prog 27 #[.agg #[.slice A1 T.length c1], .agg (FA x)] W fun e w' => ∃ v, e = .returned v ∧ Below W.heap.size W w' ∧ ∃ A2 c2, v = .tuple #[.agg #[.slice A2 N.length c2], .int .i64 en] ∧ N.length ≤ c2 ∧ SlF w' A2 N) := Lib.hid fun W hW => by
        have h := st_Add T A1 c1 x W HLN hv2 (hv3.below hW) HFF.out (HT.out.below (bTrans HB.out hW))
        unfold addR at h
        rw [hN] at h
        refine h.mono fun e w' ⟨⟨A2, c2, he, h2, h3⟩, hb⟩ => ?_
        subst he
        exact ⟨_, rfl, hb, A2, c2, rfl, h2, h3⟩
      have HVT : Hid (StV sb T wr) := Lib.hid ⟨A1, c1, hv1, hv2, hv3⟩
      have hlt2 : (k : Int) < (l.length : Int) := by omega
      clear hat hat1 hx hTT hv1 hv2 hv3 HV HNX hN
      go_upto_region 5 with fail
      go_cut [5, 6] from 14 to 22 (fun tv ev wx => ev = .int .i64 en ∧ ∃ (tb : Nat) (A2 : Option Addr) (c2 : Nat), tv = .pointer (some ⟨tb, 0, none⟩) ∧ Hid (Bk tb 27 #[.slice A2 N.length c2] wx ∧ N.length ≤ c2 ∧ SlF wx A2 N ∧ Below wr.heap.size wr wx))
      case first =>
        refine wp_region_mk (SPd ⟨sb, b, off, l.length, ca, k, A1, c1, T, N, en, x⟩) [⟨9, 10, 5, 21, 27⟩] [15, 16, 17, 18, 19, 20, 14, 21, 22, 5, 6] rfl (by rfl) (by kernel_rfl) (SPd.st _) ?_ ?_ ?_ (by decide) (by rfl) ?_ (opsK_all ?_) ?_
        · intro p hp t v w b y x' _ hk' h
          rw [List.mem_singleton.1 hp] at hk'
          exact SPd.put_ _ t v w b y x' hk' h
        · intro p hp v w
          rw [List.mem_singleton.1 hp]
          exact SPd.free _ _ _ _ (by decide)
        · intro p hp
          rw [List.mem_singleton.1 hp]
          exact ⟨_, rfl, by kernel_rfl, by kernel_rfl⟩
        · intro t ht
          by_cases h : t ∈ [0, 3, 4, 15, 16, 17, 18, 19, 14, 20, 21, 22, 6]
          · simp only [List.mem_cons, List.not_mem_nil, or_false] at h
            rcases h with rfl | rfl | rfl | h
            · exact rfl
            · exact rfl
            · exact rfl
            · exfalso
              rcases h with rfl | rfl | rfl | rfl | rfl | rfl | rfl | rfl | rfl | rfl
              all_goals exact Bool.noConfusion (show false = true from ht)
          · exact SPd.free _ _ _ _ h
        · refine opsK_cons (by exact kind_n (opOk_load rfl rfl (.inl rfl) (by kernel_rfl) (fun v w h => h) (fun W hW => ⟨.agg #[.slice A1 T.length c1], by have c0 := (HLD.out W hW).1; go_simp, rfl⟩)) (by decide)) ?_
          refine opsK_cons (by exact kind_n (opOk_move rfl rfl (.inl rfl) (by kernel_rfl) (fun _ _ h => h)) (by decide)) ?_
          refine opsK_cons (by exact kind_n (opOk_move rfl rfl (.inl rfl) (by kernel_rfl) (fun _ _ h => h)) (by decide)) ?_
          refine opsK_cons (by
           exact kind_n (opOk_run rfl (.inl rfl) (fun a W hW hsp => by
            have e1 : a.eval (.tmp 16) = .slice (some ⟨b, off, none⟩) l.length ca := hsp 16 (by kernel_rfl)
            have e2 : a.eval (.tmp 17) = .int .i64 k := hsp 17 (by kernel_rfl)
            refine ⟨.pointer (some ⟨b, off + k * 8, none⟩), ?_, rfl⟩
            unfold execOp
            simp only [e1, e2]
            go_simp)) (by decide)) ?_
          refine opsK_cons (by
           exact kind_n (opOk_load rfl rfl (.inl rfl) (by kernel_rfl) (fun v w h => h) (fun W hW => ⟨.agg (FA x), by
            obtain ⟨c0, c1', c2, c3, c4, c5, c6, c7⟩ := (HLD.out W hW).2
            unfold FA
            go_simp, rfl⟩)) (by decide)) ?_
          refine opsK_cons (by
           exact kind_n (opOk_call2 rfl rfl (.inl rfl) (by kernel_rfl) (by kernel_rfl) (fun args W => by go_simp) (fun v1 v2 W hW h1 h2 => by
            rw [show v1 = .agg #[.slice A1 T.length c1] from h1, show v2 = .agg (FA x) from h2]
            exact HADD.out W hW)) (by decide)) ?_
          refine opsK_cons (by exact kind_n (opOk_move rfl rfl (.inl rfl) (by kernel_rfl) (fun _ _ h => h)) (by decide)) ?_
          refine opsK_cons (by
           exact kind_n (opOk_run rfl (.inl rfl) (fun a W hW hsp => by
            obtain ⟨A2, c2, h1, h2, h3⟩ := hsp 14 (by kernel_rfl)
            have e1 : a.eval (.tmp 14) = .tuple #[.agg #[.slice A2 N.length c2], .int .i64 en] := h1
            refine ⟨.agg #[.slice A2 N.length c2], ?_, ⟨A2, c2, rfl, h2, h3⟩⟩
            unfold execOp
            simp only [e1]
            go_simp)) (by decide)) ?_
          refine opsK_cons (by
           exact kind_n (opOk_run rfl (.inl rfl) (fun a W hW hsp => by
            obtain ⟨A2, c2, h1, h2, h3⟩ := hsp 14 (by kernel_rfl)
            have e1 : a.eval (.tmp 14) = .tuple #[.agg #[.slice A2 N.length c2], .int .i64 en] := h1
            refine ⟨.int .i64 en, ?_, rfl⟩
            unfold execOp
            simp only [e1]
            go_simp)) (by decide)) ?_
          refine opsK_cons (by exact kind_alloc ⟨9, 10, 5, 21, 27⟩ (.slice none 0 0) (by simp) rfl rfl rfl (by decide) (by decide) (fun _ _ => run_newS rfl)) ?_
          refine opsK_cons (by exact kind_store ⟨9, 10, 5, 21, 27⟩ (by simp) rfl rfl rfl (by kernel_rfl) (by kernel_rfl) (by kernel_rfl) (by decide) (fun v w ⟨A2, c2, h, _⟩ => ⟨A2, N.length, c2, h⟩) (fun _ _ _ _ _ _ _ h1 h2 h3 => run_putS rfl h1 h2 h3)) ?_
          refine opsK_cons (by exact kind_n (opOk_assign rfl rfl (.inl rfl) (by kernel_rfl) (fun _ _ h => h)) (by decide)) ?_
          exact opsK_nil
        · intro vs W hb hsp hmk
          obtain ⟨tb, y1, e1, hv1, hy1, z1⟩ := hmk ⟨9, 10, 5, 21, 27⟩ (by simp)
          obtain ⟨A2, c2, q1, q2, q3⟩ := hsp 21
          have q4 : y1 = .slice A2 N.length c2 := by have h := z1.symm.trans q1; simpa using h
          subst q4
          have e6 : vs 6 = .int .i64 en := hsp 6
          clear z1 q1 hmk hsp
          simp only [putAll]
          go_simp
          go_step
          go_meet
          exact ⟨rfl, tb, A2, c2, rfl, Lib.hid ⟨hy1, q2, q3, hb⟩⟩
      case rest =>
      obtain ⟨rfl, tb, A2, c2, rfl, HM⟩ := hcut
      obtain ⟨w5, rfl⟩ : ∃ x : World, x = wc := ⟨_, rfl⟩
      have HB5 : Hid (Below w.heap.size w w5) := Lib.hid (bTrans HB.out HM.out.2.2.2)
      have HR5 : Hid (Bk rb 27 #[.slice none 0 0] w5) := Lib.hid ((HM.out.2.2.2.block rb HR.out.lt).trans HR.out)
      by_cases he : en = 0
      · have be : (en == 0) = true := beq_iff_eq.2 he
        obtain ⟨A1', c1', hk1, _, _⟩ := HVT.out.below HM.out.2.2.2
        have V5 : w5.cell? ⟨sb, 0, none⟩ = some (.slice A1' T.length c1') := hk1.cell 0
        have D5 : w5.frozen? ⟨sb, 0, none⟩ = false := hk1.frozen 0
        have U5 : w5.cell? ⟨tb, 0, none⟩ = some (.slice A2 N.length c2) := HM.out.1.cell 0
        obtain ⟨w6, hw6⟩ : ∃ z, w5.setCell ⟨sb, 0, none⟩ (.slice A2 N.length c2) = z := ⟨_, rfl⟩
        have HV6 : Hid (StV sb N w6) := Lib.hid ⟨A2, c2, by rw [← hw6]; exact hk1.set_ 0 _, HM.out.2.1, by rw [← hw6]; exact HM.out.2.2.1.keepRe hk1 _⟩
        have HB6 : Hid (Below w.heap.size w w6) := Lib.hid (by rw [← hw6]; exact HB5.out.setCell (p := ⟨sb, 0, none⟩) HRS.out.2.2 _)
        have HR6 : Hid (Bk rb 27 #[.slice none 0 0] w6) := Lib.hid (by rw [← hw6]; exact (heap_setCell_other w5 ⟨sb, 0, none⟩ rb _ HRS.out.1).trans HR5.out)
        have HE6 := Lib.hid hw6
        clear hk1 hw6 he HM
        go_upto_region 4 with fail
        rw [HE6.out]
        clear V5 D5 U5 HE6
        go_wp2
        go_roundg (l.length - (k + 1))
        case measure => omega
        case rel => exact ⟨k + 1, by omega, by go_num, by rw [HNX2.out]; exact HV6, HR6, HB6⟩
      · have be : (en == 0) = false := beq_eq_false_iff_ne.2 he
        have HV6 : Hid (StV sb N w5) := Lib.hid (by rw [HNO.out he]; exact HVT.out.below HM.out.2.2.2)
        clear he HM
        go_wp2
        go_roundg (l.length - (k + 1))
        case measure => omega
        case rel => exact ⟨k + 1, by omega, by go_num, by rw [HNX2.out]; exact HV6, HR5, HB5⟩
    · obtain rfl : k = l.length := by omega
      rw [List.take_length] at HV
      obtain ⟨T, hTT⟩ : ∃ T, tellL [] l = T := ⟨_, rfl⟩
      rw [hTT] at HV
      have HTE := Lib.hid hTT
      obtain ⟨A1, c1, hk1, hc1, hs1⟩ := HV.out
      have V5 : wr.cell? ⟨sb, 0, none⟩ = some (.slice A1 T.length c1) := hk1.cell 0
      have U5 : wr.cell? ⟨rb, 0, none⟩ = some (.slice none 0 0) := HR.out.cell 0
      have D5 : wr.frozen? ⟨rb, 0, none⟩ = false := HR.out.frozen 0
      have HF : Hid (T.length ≤ c1 ∧ SlF (wr.setCell ⟨rb, 0, none⟩ (.slice A1 T.length c1)) A1 T ∧ Below w.heap.size w (wr.setCell ⟨rb, 0, none⟩ (.slice A1 T.length c1))) := Lib.hid ⟨hc1, hs1.keepRe HR.out _, HB.out.setCell (p := ⟨rb, 0, none⟩) HRS.out.2.1 _⟩
      have HZ : (wr.setCell ⟨rb, 0, none⟩ (.slice A1 T.length c1)).cell? ⟨rb, 0, none⟩ = some (.slice A1 T.length c1) := Bk.cell (HR.out.set_ 0 _) 0
      clear hk1 hc1 hs1 hlt hk hTT
      go_wp2
      exact bodyPost_ret (v := .agg #[.slice A1 T.length c1]) (by simp [results, Tryz.results17, go_sem, HZ]) rfl ⟨⟨A1, c1, by rw [HTE.out], by rw [HTE.out]; exact HF.out.1, by rw [HTE.out]; exact HF.out.2.1⟩, HF.out.2.2⟩
end Go.Proofs.YtgheloooibafcaaGreatDoor
