import Derived.Test.YtmngghglcgmkeaaGreatDoorLmx
import Derived.Test.YtmngghglcgmkeaaGreatDoorLvc
import Derived.Test.YtmngghglcgmkeaaGreatDoorChx
import Derived.Test.YtmngghglcgmkeaaGreatDoorAbx
import Derived.BigQuiet
/- law19.LeaveMoves. Printed by gen/mklme.py. -/
namespace Go.Proofs.YtmngghglcgmkeaaGreatDoor
open Go.RowKit Go.Sort

/-- A store in a variable. -/
def StV (sb : Nat) (L : List Fa) (W : World) : Prop := ∃ A cap, Bk sb 33 #[.slice A L.length cap] W ∧ L.length ≤ cap ∧ SlF W A L
theorem StV.below {sb : Nat} {L : List Fa} {W W' : World} (h : StV sb L W) (hb : Below W.heap.size W W') : StV sb L W' := by
  obtain ⟨A, cap, h1, h2, h3⟩ := h
  exact ⟨A, cap, (hb.block sb h1.lt).trans h1, h2, h3.below hb⟩
structure Pd where
  sb : Nat
  b : Nat
  off : Nat
  n : Nat
  ca : Nat
  k : Nat
  A1 : Option Addr
  c1 : Nat
  T : List Fa
  N : List Fa
  en : Int
  x : Fa
/-- What a slot of told's round holds. -/
def SPd (p : Pd) (t : Nat) (v : Value) (w : World) : Prop := match t with
  | 0 | 43 => v = .slice (some ⟨p.b, p.off, none⟩) p.n p.ca
  | 7 => v = .pointer (some ⟨p.sb, 0, none⟩)
  | 8 | 44 => v = .int .i64 p.k
  | 42 => v = .agg #[.slice p.A1 p.T.length p.c1]
  | 45 => v = .pointer (some ⟨p.b, p.off + p.k * 8, none⟩)
  | 46 => v = .agg (FA p.x)
  | 41 | 47 => ∃ A2 c2, v = .tuple #[.agg #[.slice A2 p.N.length c2], .int .i64 p.en] ∧ p.N.length ≤ c2 ∧ SlF w A2 p.N
  | 48 => ∃ A2 c2, v = .agg #[.slice A2 p.N.length c2] ∧ p.N.length ≤ c2 ∧ SlF w A2 p.N
  | 10 | 49 => v = .int .i64 p.en
  | _ => True
theorem SPd.st (p : Pd) : ∀ t v w w', SPd p t v w → Below w.heap.size w w' → SPd p t v w' := by
  intro t v w w' h hb
  unfold SPd at h
  split at h
  all_goals first
    | exact h
    | (obtain ⟨A2, c2, h1, h2, h3⟩ := h; exact ⟨A2, c2, h1, h2, h3.below hb⟩)
    | (unfold SPd; split <;> first | trivial | (exfalso; simp_all))
theorem SPd.put_ (p : Pd) (t : Nat) (v : Value) (w : World) (b : Nat) (y x : Value) (hk : Bk b 33 #[y] w) (h : SPd p t v w) : SPd p t v (w.setCell ⟨b, 0, none⟩ x) := by
  unfold SPd at h
  split at h
  all_goals first
    | exact h
    | (obtain ⟨A2, c2, h1, h2, h3⟩ := h; exact ⟨A2, c2, h1, h2, h3.keepRe hk _⟩)
    | (unfold SPd; split <;> first | trivial | (exfalso; simp_all))
theorem SPd.free (p : Pd) (t : Nat) (v : Value) (w : World) (h : t ∉ [0, 7, 8, 42, 43, 44, 45, 46, 41, 47, 48, 49, 10]) : SPd p t v w := by
  unfold SPd
  split
  all_goals first | trivial | (exfalso; exact h (by simp))
theorem sps_pureM {tbl : List (Nat × Sp)} {dead : List Nat} (h : ∀ p ∈ tbl, p.1 ∈ dead ∨ ∀ v w w', p.2.p v w → p.2.p v w') {t : Nat} (ht : t ∉ dead) {v : Value} {w w' : World} (k : SPS tbl t v w) : SPS tbl t v w' := by
  intro s hs
  have hm : (t, s) ∈ tbl := by
    clear h k
    induction tbl with
    | nil => cases hs
    | cons q r ih =>
      obtain ⟨u, y⟩ := q
      rw [List.lookup_cons] at hs
      by_cases hu : t = u
      · subst hu
        simp at hs
        subst hs
        exact List.mem_cons_self ..
      · have e : (t == u) = false := beq_eq_false_iff_ne.2 hu
        rw [e] at hs
        exact List.mem_cons_of_mem _ (ih hs)
  rcases h _ hm with h | h
  · exact absurd h ht
  · exact h _ _ _ (k s hs)
theorem dayL_split (g : Int → Bool) (a : Int) {j : Nat} : ∀ {n : Nat}, j ≤ n → ∃ M, dayL g a n = dayL g a j ++ M
  | 0, h => ⟨[], by rw [show j = 0 by omega, List.append_nil]⟩
  | n + 1, h => by
    by_cases he : j = n + 1
    · exact ⟨[], by rw [he, List.append_nil]⟩
    · obtain ⟨M, hM⟩ := dayL_split g a (j := j) (n := n) (by omega)
      exact ⟨M ++ (if g (a + n) = true then [(a + n, 0, 100)] else []), by rw [dayL, hM, List.append_assoc]⟩
theorem eqMo (p0 p1 p2 : Int) (w : World) : (binOp .neq 70 (.agg #[.int .i64 p0, .int .i64 p1, .int .i64 p2]) (.agg #[.int .i64 p0, .int .i64 p1, .int .i64 p2])).run Tryz.prog w = .ok (.bool false) w := by
  go_simp
theorem own_slM {B : Nat} {v : Value} {l : List Mvt} {w : World} (h : OwnMo B v l w) : ∃ A c, v = .slice A l.length c ∧ Sl Mo.encM 3 w w.heap.size A l := by
  obtain ⟨A, c, h1, _, h2⟩ := own_sl Mo.encM_len h
  exact ⟨A, c, h1, h2⟩
theorem told_leM (l : List Fa) : (tellL [] l).length ≤ l.length := by
  have h := tellL_len l []
  simpa using h
theorem bShiftM {P : World → Prop} {w0 w1 : World} (h : ∀ W, Below w0.heap.size w0 W → P W) (hb : Below w0.heap.size w0 w1) : ∀ W, Below w1.heap.size w1 W → P W := fun W hW => h W (bTrans hb hW)
set_option maxHeartbeats 8000000 in
set_option maxRecDepth 100000 in
theorem lw_LeaveMoves (l : List Fa) (A : Option Addr) (ca : Nat) (h : Nat → Int) (D : List Int) (AD : Option Addr) (cD : Nat) (un : Int) (w : World) (hl : l.length ≤ 9223372036854775807) (fl : ∀ f ∈ l, FitW f) (hL : SlF w A l) (hn : D.length ≤ 9223372036854775807) (hd : ∀ d ∈ D, -9223372036854775808 ≤ d ∧ d ≤ 9223372036854775807) (hsD : Sl encDd 1 w w.heap.size AD D) (hun : -9223372036854775808 ≤ un ∧ un ≤ 9223372036854775807) (hT : Tb w) (hC : Tab w) (hV : Lv.Tabs w) :
    Calls Tryz.prog 5 #[.slice A l.length ca, .agg #[.int .i64 (h 0), .int .i64 (h 1), .int .i64 (h 2), .int .i64 (h 3), .int .i64 (h 4), .int .i64 (h 5), .int .i64 (h 6), .slice AD D.length cD], .int .i64 un] w fun e w' => e = .returned (.bool true) ∧ Below w.heap.size w w' := by
  have HAW : Hid (∀ W, Below w.heap.size w W → Calls Tryz.prog 16 #[] W fun e w' => e = .returned (.bool true) ∧ Below W.heap.size W w') := Lib.hid fun W hW => Lv.lv_awake W (hV.below hW hV.size)
  obtain ⟨pb, hpb⟩ : ∃ z, w.heap.size = z := ⟨_, rfl⟩
  obtain ⟨w2, hw2⟩ : ∃ z, w.alloc (.cells #[.int .i64 (h 0), .int .i64 (h 1), .int .i64 (h 2), .int .i64 (h 3), .int .i64 (h 4), .int .i64 (h 5), .int .i64 (h 6), .slice AD D.length cD] 58) = z := ⟨_, rfl⟩
  have hb2 : Below w.heap.size w w2 := by rw [← hw2]; exact bAlloc _ _
  have HB2 := Lib.hid hb2
  have HKP : Hid (Bk pb 58 #[.int .i64 (h 0), .int .i64 (h 1), .int .i64 (h 2), .int .i64 (h 3), .int .i64 (h 4), .int .i64 (h 5), .int .i64 (h 6), .slice AD D.length cD] w2) := Lib.hid (by rw [← hw2, ← hpb]; exact Bk.new _ _ _)
  have HPC : Hid (∀ W, Below w2.heap.size w2 W → W.cell? ⟨pb, 0, none⟩ = some (.int .i64 (h 0)) ∧ W.cell? ⟨pb, 1, none⟩ = some (.int .i64 (h 1)) ∧ W.cell? ⟨pb, 2, none⟩ = some (.int .i64 (h 2)) ∧ W.cell? ⟨pb, 3, none⟩ = some (.int .i64 (h 3)) ∧ W.cell? ⟨pb, 4, none⟩ = some (.int .i64 (h 4)) ∧ W.cell? ⟨pb, 5, none⟩ = some (.int .i64 (h 5)) ∧ W.cell? ⟨pb, 6, none⟩ = some (.int .i64 (h 6)) ∧ W.cell? ⟨pb, 7, none⟩ = some (.slice AD D.length cD)) := Lib.hid fun W hW => ⟨bCell hW (HKP.out.cell 0), bCell hW (HKP.out.cell 1), bCell hW (HKP.out.cell 2), bCell hW (HKP.out.cell 3), bCell hW (HKP.out.cell 4), bCell hW (HKP.out.cell 5), bCell hW (HKP.out.cell 6), bCell hW (HKP.out.cell 7)⟩
  have HL2 := Lib.hid (hL.below hb2)
  have HSD := Lib.hid (sl_bel hsD hb2)
  have HT2 := Lib.hid (hT.below hb2)
  have HC2 : Hid (Tab w2) := Lib.hid (tabW hC hb2)
  have HDD := Lib.hid hd
  have HFI := Lib.hid fl
  have HE := Lib.hid (And.intro hpb hw2)
  have K7 : w2.cell? ⟨pb, 7, none⟩ = some (.slice AD D.length cD) := HKP.out.cell 7
  clear hpb hw2 hb2 hT hC hV hL hsD hd fl
  go_enter Tryz.func5, Tryz.ntmps5
  go_upto_region 1 with fail
  rw [HE.out.1, HE.out.2]
  clear HE
  by_cases hbig : 30 < l.length ∨ 60 < D.length
  · as_aux_lemma =>
      have hcs : 30 < l.length ∨ (¬ 30 < l.length ∧ 60 < D.length) := by omega
      clear hbig
      have HA2 := Lib.hid (HAW.out _ HB2.out)
      rcases hcs with h1 | ⟨h1, h2⟩
      · have h1' : (30 : Int) < (l.length : Int) := by omega
        clear h1
        go_wp2_with fail
        refine HA2.out.mono ?_
        rintro e w4 ⟨rfl, hb4⟩
        have HF := Lib.hid (bTrans HB2.out hb4)
        clear hb4
        go_wp2
        go_ret
        exact ⟨rfl, HF.out⟩
      · have h1' : ¬ (30 : Int) < (l.length : Int) := by omega
        have h2' : (60 : Int) < (D.length : Int) := by omega
        clear h1 h2
        go_wp2_with fail
        refine HA2.out.mono ?_
        rintro e w4 ⟨rfl, hb4⟩
        have HF := Lib.hid (bTrans HB2.out hb4)
        clear hb4
        go_wp2
        go_ret
        exact ⟨rfl, HF.out⟩
  have hl30 : l.length ≤ 30 := by omega
  have hD60 : D.length ≤ 60 := by omega
  obtain ⟨sb, hsb⟩ : ∃ z, w2.heap.size = z := ⟨_, rfl⟩
  obtain ⟨w3, hw3⟩ : ∃ z, w2.alloc (.cells #[.slice none 0 0] 33) = z := ⟨_, rfl⟩
  have hk3 : Bk sb 33 #[.slice none 0 0] w3 := by rw [← hw3, ← hsb]; exact Bk.new _ _ _
  have HV3 : Hid (StV sb [] w3) := Lib.hid ⟨none, 0, hk3, Nat.le_refl _, fun h => absurd rfl h⟩
  have HB3 : Hid (Below w2.heap.size w2 w3) := Lib.hid (by rw [← hw3]; exact bAlloc _ _)
  have HSG : Hid (w2.heap.size ≤ sb) := Lib.hid (Nat.le_of_eq hsb)
  have HE := Lib.hid (And.intro hsb hw3)
  have h1' : ¬ (30 : Int) < (l.length : Int) := by omega
  have h2' : ¬ (60 : Int) < (D.length : Int) := by omega
  clear hk3 hsb hw3 hbig
  go_upto_region 4 with fail
  rw [HE.out.1, HE.out.2]
  clear HE h1' h2' K7
  go_wp2
  go_loopw [8] (fun iv wr => ∃ k : Nat, k ≤ l.length ∧ iv = .int .i64 k ∧ Hid (StV sb (tellL [] (l.take k)) wr) ∧ Hid (Below w2.heap.size w2 wr)) (fun iv _ => l.length - (intOf iv).toNat)
  case atStart => exact ⟨0, Nat.zero_le _, rfl, HV3, HB3⟩
  case round =>
    clear HV3 HB3
    obtain ⟨k, hk, rfl, HV, HB⟩ := hrel
    obtain ⟨wo, hwo⟩ : ∃ x : World, x = wr := ⟨_, rfl⟩
    subst hwo
    by_cases hlt : k < l.length
    · as_aux_lemma =>
        obtain ⟨b, off, rfl, hbl, hat⟩ := SlF.open_ (HL2.out.below HB.out) (by intro h; simp [h] at hlt)
        obtain ⟨x, hx⟩ : ∃ x, l[k]? = some x := ⟨_, List.getElem?_eq_getElem hlt⟩
        have hat1 := hat k x hx
        have HNX := Lib.hid (tellL_take (L := []) hx)
        have HFF := Lib.hid (HFI.out x (List.mem_of_getElem? hx))
        have HLN : (tellL [] (l.take k)).length ≤ 4096 := by have := told_leM (l.take k); rw [List.length_take] at this; omega
        obtain ⟨T, hTT⟩ : ∃ T, tellL [] (l.take k) = T := ⟨_, rfl⟩
        rw [hTT] at HNX HLN
        obtain ⟨A1, c1, hv1, hv2, hv3⟩ : StV sb T wo := by rw [← hTT]; exact HV.out
        obtain ⟨N, en, hN⟩ : ∃ N en, addL T x = (N, en) := ⟨_, _, rfl⟩
        have HNX2 : Hid (tellL [] (l.take (k + 1)) = N) := Lib.hid (by rw [HNX.out, hN])
        have HNO : Hid (en ≠ 0 → N = T) := Lib.hid fun he => by
          rcases addL_or T x with ⟨e, _, h⟩ | ⟨h, _⟩
          · rw [hN] at h; injection h with h _
          · rw [hN] at h; injection h with _ h; exact absurd h he
        obtain ⟨wr, hwr⟩ : ∃ x : World, x = wo := ⟨_, rfl⟩
        subst hwr
        have HLD : Hid (∀ W, Below wr.heap.size wr W → W.cell? ⟨sb, 0, none⟩ = some (.slice A1 T.length c1) ∧ At8 W b (off + k * 8) x) := Lib.hid fun W hW => ⟨bCell hW (hv1.cell 0), hat1.below hW⟩
        have HADD : Hid (∀ W, Below wr.heap.size wr W → Calls Tryz.prog 10 #[.agg #[.slice A1 T.length c1], .agg (FA x)] W fun e w' => ∃ v, e = .returned v ∧ Below W.heap.size W w' ∧ ∃ A2 c2, v = .tuple #[.agg #[.slice A2 N.length c2], .int .i64 en] ∧ N.length ≤ c2 ∧ SlF w' A2 N) := Lib.hid fun W hW => by
          have h := st_AddW T A1 c1 x W HLN hv2 (hv3.below hW) HFF.out (HT2.out.below (bTrans HB.out hW))
          unfold addR at h
          rw [hN] at h
          refine h.mono fun e w' ⟨⟨A2, c2, he, h2, h3⟩, hb⟩ => ?_
          subst he
          exact ⟨_, rfl, hb, A2, c2, rfl, h2, h3⟩
        have HVT : Hid (StV sb T wr) := Lib.hid ⟨A1, c1, hv1, hv2, hv3⟩
        have hlt2 : (k : Int) < (l.length : Int) := by omega
        clear hat hat1 hx hTT hv1 hv2 hv3 HV HNX hN
        go_upto_region 7 with fail
        go_cut [9, 10] from 41 to 49 (fun tv ev wx => ev = .int .i64 en ∧ ∃ (tb : Nat) (A2 : Option Addr) (c2 : Nat), tv = .pointer (some ⟨tb, 0, none⟩) ∧ Hid (Bk tb 33 #[.slice A2 N.length c2] wx ∧ N.length ≤ c2 ∧ SlF wx A2 N ∧ Below wr.heap.size wr wx))
        case first =>
          refine wp_region_mk (SPd ⟨sb, b, off, l.length, ca, k, A1, c1, T, N, en, x⟩) [⟨9, 10, 9, 48, 33⟩] [42, 43, 44, 45, 46, 47, 41, 48, 49, 9, 10] rfl (by rfl) (by kernel_rfl) (SPd.st _) ?_ ?_ ?_ (by decide) (by rfl) ?_ (opsK_all ?_) ?_
          · intro p hp t v w b y x' _ hk' h
            rw [List.mem_singleton.1 hp] at hk'
            exact SPd.put_ _ t v w b y x' hk' h
          · intro p hp v w
            rw [List.mem_singleton.1 hp]
            exact SPd.free _ _ _ _ (by decide)
          · intro p hp
            rw [List.mem_singleton.1 hp]
            exact ⟨_, rfl, by kernel_rfl, by kernel_rfl⟩
          · intro t ht
            by_cases h : t ∈ [0, 7, 8, 42, 43, 44, 45, 46, 41, 47, 48, 49, 10]
            · simp only [List.mem_cons, List.not_mem_nil, or_false] at h
              rcases h with rfl | rfl | rfl | h
              · exact rfl
              · exact rfl
              · exact rfl
              · exfalso
                rcases h with rfl | rfl | rfl | rfl | rfl | rfl | rfl | rfl | rfl | rfl
                all_goals exact Bool.noConfusion (show false = true from ht)
            · exact SPd.free _ _ _ _ h
          · refine opsK_cons (by exact kind_n (opOk_load rfl rfl (.inl rfl) (by kernel_rfl) (fun v w h => h) (fun W hW => ⟨.agg #[.slice A1 T.length c1], by have c0 := (HLD.out W hW).1; go_simp, rfl⟩)) (by decide)) ?_
            refine opsK_cons (by exact kind_n (opOk_move rfl rfl (.inl rfl) (by kernel_rfl) (fun _ _ h => h)) (by decide)) ?_
            refine opsK_cons (by exact kind_n (opOk_move rfl rfl (.inl rfl) (by kernel_rfl) (fun _ _ h => h)) (by decide)) ?_
            refine opsK_cons (by
             exact kind_n (opOk_run rfl (.inl rfl) (fun a W hW hsp => by
              have e1 : a.eval (.tmp 43) = .slice (some ⟨b, off, none⟩) l.length ca := hsp 43 (by kernel_rfl)
              have e2 : a.eval (.tmp 44) = .int .i64 k := hsp 44 (by kernel_rfl)
              refine ⟨.pointer (some ⟨b, off + k * 8, none⟩), ?_, rfl⟩
              unfold execOp
              simp only [e1, e2]
              go_simp)) (by decide)) ?_
            refine opsK_cons (by
             exact kind_n (opOk_load rfl rfl (.inl rfl) (by kernel_rfl) (fun v w h => h) (fun W hW => ⟨.agg (FA x), by
              obtain ⟨c0, c1', c2, c3, c4, c5, c6, c7⟩ := (HLD.out W hW).2
              unfold FA
              go_simp, rfl⟩)) (by decide)) ?_
            refine opsK_cons (by
             exact kind_n (opOk_call2 rfl rfl (.inl rfl) (by kernel_rfl) (by kernel_rfl) (fun args W => by go_simp) (fun v1 v2 W hW h1 h2 => by
              rw [show v1 = .agg #[.slice A1 T.length c1] from h1, show v2 = .agg (FA x) from h2]
              exact HADD.out W hW)) (by decide)) ?_
            refine opsK_cons (by exact kind_n (opOk_move rfl rfl (.inl rfl) (by kernel_rfl) (fun _ _ h => h)) (by decide)) ?_
            refine opsK_cons (by
             exact kind_n (opOk_run rfl (.inl rfl) (fun a W hW hsp => by
              obtain ⟨A2, c2, h1, h2, h3⟩ := hsp 41 (by kernel_rfl)
              have e1 : a.eval (.tmp 41) = .tuple #[.agg #[.slice A2 N.length c2], .int .i64 en] := h1
              refine ⟨.agg #[.slice A2 N.length c2], ?_, ⟨A2, c2, rfl, h2, h3⟩⟩
              unfold execOp
              simp only [e1]
              go_simp)) (by decide)) ?_
            refine opsK_cons (by
             exact kind_n (opOk_run rfl (.inl rfl) (fun a W hW hsp => by
              obtain ⟨A2, c2, h1, h2, h3⟩ := hsp 41 (by kernel_rfl)
              have e1 : a.eval (.tmp 41) = .tuple #[.agg #[.slice A2 N.length c2], .int .i64 en] := h1
              refine ⟨.int .i64 en, ?_, rfl⟩
              unfold execOp
              simp only [e1]
              go_simp)) (by decide)) ?_
            refine opsK_cons (by exact kind_alloc ⟨9, 10, 9, 48, 33⟩ (.slice none 0 0) (by simp) rfl rfl rfl (by decide) (by decide) (fun _ _ => run_newS rfl)) ?_
            refine opsK_cons (by exact kind_store ⟨9, 10, 9, 48, 33⟩ (by simp) rfl rfl rfl (by kernel_rfl) (by kernel_rfl) (by kernel_rfl) (by decide) (fun v w ⟨A2, c2, h, _⟩ => ⟨A2, N.length, c2, h⟩) (fun _ _ _ _ _ _ _ h1 h2 h3 => run_putS rfl h1 h2 h3)) ?_
            refine opsK_cons (by exact kind_n (opOk_assign rfl rfl (.inl rfl) (by kernel_rfl) (fun _ _ h => h)) (by decide)) ?_
            exact opsK_nil
          · intro vs W hb hsp hmk
            obtain ⟨tb, y1, e1, hv1, hy1, z1⟩ := hmk ⟨9, 10, 9, 48, 33⟩ (by simp)
            obtain ⟨A2, c2, q1, q2, q3⟩ := hsp 48
            have q4 : y1 = .slice A2 N.length c2 := by have h := z1.symm.trans q1; simpa using h
            subst q4
            have e6 : vs 10 = .int .i64 en := hsp 10
            clear z1 q1 hmk hsp
            simp only [putAll]
            go_simp
            go_step
            go_meet
            exact ⟨rfl, tb, A2, c2, rfl, Lib.hid ⟨hy1, q2, q3, hb⟩⟩
        case rest =>
        obtain ⟨rfl, tb, A2, c2, rfl, HM⟩ := hcut
        obtain ⟨w5, rfl⟩ : ∃ x : World, x = wc := ⟨_, rfl⟩
        have HB5 : Hid (Below w2.heap.size w2 w5) := Lib.hid (bTrans HB.out HM.out.2.2.2)
        by_cases he : en = 0
        · have be : (en == 0) = true := beq_iff_eq.2 he
          obtain ⟨A1', c1', hk1, _, _⟩ := HVT.out.below HM.out.2.2.2
          have V5 : w5.cell? ⟨sb, 0, none⟩ = some (.slice A1' T.length c1') := hk1.cell 0
          have D5 : w5.frozen? ⟨sb, 0, none⟩ = false := hk1.frozen 0
          have U5 : w5.cell? ⟨tb, 0, none⟩ = some (.slice A2 N.length c2) := HM.out.1.cell 0
          obtain ⟨w6, hw6⟩ : ∃ z, w5.setCell ⟨sb, 0, none⟩ (.slice A2 N.length c2) = z := ⟨_, rfl⟩
          have HV6 : Hid (StV sb N w6) := Lib.hid ⟨A2, c2, by rw [← hw6]; exact hk1.set_ 0 _, HM.out.2.1, by rw [← hw6]; exact HM.out.2.2.1.keepRe hk1 _⟩
          have HB6 : Hid (Below w2.heap.size w2 w6) := Lib.hid (by rw [← hw6]; exact HB5.out.setCell (p := ⟨sb, 0, none⟩) HSG.out _)
          have HE6 := Lib.hid hw6
          clear hk1 hw6 he HM
          go_upto_region 6 with fail
          rw [HE6.out]
          clear V5 D5 U5 HE6 be
          go_wp2
          exact ⟨⟨k + 1, by omega, by go_num, by rw [HNX2.out]; exact HV6, HB6⟩, by simp [intOf]; omega⟩
        · have be : (en == 0) = false := beq_eq_false_iff_ne.2 he
          have HV6 : Hid (StV sb N w5) := Lib.hid (by rw [HNO.out he]; exact HVT.out.below HM.out.2.2.2)
          clear he HM HVT
          go_wp2
          exact ⟨⟨k + 1, by omega, by go_num, by rw [HNX2.out]; exact HV6, HB5⟩, by simp [intOf]; omega⟩
    · obtain rfl : k = l.length := by omega
      rw [List.take_length] at HV
      have hTl : (tellL [] l).length ≤ 30 := Nat.le_trans (told_leM l) hl30
      have hTc := tell_chk l [] (by simp)
      obtain ⟨T, hTT⟩ : ∃ T, tellL [] l = T := ⟨_, rfl⟩
      rw [hTT] at HV hTl hTc
      have HTC := Lib.hid hTc
      obtain ⟨A1, c1, hv1, hv2, hv3⟩ : StV sb T wo := HV.out
      obtain ⟨wr, hwr⟩ : ∃ x : World, x = wo := ⟨_, rfl⟩
      subst hwr
      have HLD : Hid (∀ W, Below wr.heap.size wr W → W.cell? ⟨sb, 0, none⟩ = some (.slice A1 T.length c1)) := Lib.hid fun W hW => bCell hW (hv1.cell 0)
      have HLEN : Hid (∀ W, Calls Tryz.prog 13 #[.agg #[.slice A1 T.length c1]] W fun e w' => e = .returned (.int .i64 T.length) ∧ Below W.heap.size W w') := Lib.hid fun W => st_Len A1 T.length c1 W
      have HAT : Hid (∀ W, Calls Tryz.prog 12 #[.agg #[.slice A1 T.length c1], .int .i64 T.length] W fun e w' => e = .returned (.agg #[.slice A1 T.length T.length]) ∧ Below W.heap.size W w') := Lib.hid fun W => by
        have h := st_At T A1 c1 T.length W (by omega) hv2
        have e : atN T (T.length : Int) = T.length := by unfold atN; simp
        rwa [e] at h
      have HTS : Hid (SlF wr A1 T) := Lib.hid hv3
      clear hTT hTc hv1 hv2 hv3 hlt hk HV
      go_upto_region 10 with fail
      go_cut [11] from 53 to 56 (fun vv wx => ∃ vb, vv = .pointer (some ⟨vb, 0, none⟩) ∧ Hid (Bk vb 43 #[.slice A1 T.length T.length] wx ∧ Below wr.heap.size wr wx))
      case first =>
        refine wp_region_mk (SPS [(7, Sp.val (.pointer (some ⟨sb, 0, none⟩))), (53, Sp.val (.agg #[.slice A1 T.length c1])), (54, Sp.val (.agg #[.slice A1 T.length c1])), (55, Sp.val (.int .i64 T.length)), (56, Sp.val (.agg #[.slice A1 T.length T.length]))]) [⟨4, 5, 11, 56, 43⟩] [53, 54, 55, 56, 11] rfl (by rfl) (by kernel_rfl) (SPS.st _) ?_ ?_ ?_ (by decide) (by rfl) ?_ (opsK_all ?_) ?_
        · exact fun p _ t v w b y x _ _ h => sps_pureM (dead := []) (cons_all (.inr fun _ _ _ h => h) (cons_all (.inr fun _ _ _ h => h) (cons_all (.inr fun _ _ _ h => h) (cons_all (.inr fun _ _ _ h => h) (cons_all (.inr fun _ _ _ h => h) (nil_all)))))) (by simp) h
        · intro p hp v w s hs
          simp only [List.mem_cons, List.not_mem_nil, or_false] at hp
          subst hp
          all_goals cases hs
        · intro p hp
          simp only [List.mem_cons, List.not_mem_nil, or_false] at hp
          subst hp
          all_goals exact ⟨_, rfl, by kernel_rfl, by kernel_rfl⟩
        · exact sps_start (cons_all rfl (nil_all))
        · refine opsK_cons (by
           exact kind_n (opOk_load (p := ⟨sb, 0, none⟩) rfl rfl (.inl rfl) (by kernel_rfl) (fun _ _ h => h.get rfl) (fun W hW => by
              have c0 := (HLD.out W hW)
              exact ⟨.agg #[.slice A1 T.length c1], by go_simp, sps rfl rfl⟩)) (by decide)) ?_
          refine opsK_cons (by
           exact kind_n (opOk_load (p := ⟨sb, 0, none⟩) rfl rfl (.inl rfl) (by kernel_rfl) (fun _ _ h => h.get rfl) (fun W hW => by
              have c0 := (HLD.out W hW)
              exact ⟨.agg #[.slice A1 T.length c1], by go_simp, sps rfl rfl⟩)) (by decide)) ?_
          refine opsK_cons (by
           exact kind_n (opOk_callg (fun a => #[a.eval (.tmp 54)]) rfl rfl (.inl rfl) (fun a => by simp only [List.map_toArray, List.map_cons, List.map_nil] <;> rfl) (fun args W => by go_simp) (fun a W hW hsp => by
              have e54 : a.eval (.tmp 54) = .agg #[.slice A1 T.length c1] := (hsp 54 (by kernel_rfl)).get rfl
              simp only [e54]
              exact (HLEN.out W).mono fun e w' ⟨he, hb⟩ => ⟨_, he, hb, sps rfl rfl⟩)) (by decide)) ?_
          refine opsK_cons (by
           exact kind_n (opOk_callg (fun a => #[a.eval (.tmp 53), a.eval (.tmp 55)]) rfl rfl (.inl rfl) (fun a => by simp only [List.map_toArray, List.map_cons, List.map_nil] <;> rfl) (fun args W => by go_simp) (fun a W hW hsp => by
              have e53 : a.eval (.tmp 53) = .agg #[.slice A1 T.length c1] := (hsp 53 (by kernel_rfl)).get rfl
              have e55 : a.eval (.tmp 55) = .int .i64 T.length := (hsp 55 (by kernel_rfl)).get rfl
              simp only [e53, e55]
              exact (HAT.out W).mono fun e w' ⟨he, hb⟩ => ⟨_, he, hb, sps rfl rfl⟩)) (by decide)) ?_
          refine opsK_cons (by exact kind_alloc ⟨4, 5, 11, 56, 43⟩ (.slice none 0 0) (by simp) rfl rfl rfl (by decide) (by decide) (fun _ _ => run_newV rfl)) ?_
          refine opsK_cons (by exact kind_store ⟨4, 5, 11, 56, 43⟩ (by simp) rfl rfl rfl (by kernel_rfl) (by kernel_rfl) (by kernel_rfl) (by decide) (fun v w h => ⟨_, _, _, h.get rfl⟩) (fun _ _ _ _ _ _ _ h1 h2 h3 => run_putV rfl h1 h2 h3)) ?_
          exact opsK_nil
        · intro vs W hb hsp hmk
          obtain ⟨vb0, y0, e0, hv0, hy0, z0⟩ := hmk ⟨4, 5, 11, 56, 43⟩ (by simp)
          have q0 : y0 = .slice A1 T.length T.length := by have h := z0.symm.trans ((hsp 56).get rfl); simpa using h
          subst q0
          clear z0 hmk hsp
          simp only [putAll]
          go_simp
          go_step
          go_meet
          exact ⟨vb0, rfl, Lib.hid ⟨hy0, hb⟩⟩
      case rest =>
      obtain ⟨vb, rfl, HVB⟩ := hcut
      obtain ⟨w5, rfl⟩ : ∃ x : World, x = wc := ⟨_, rfl⟩
      have HB5 : Hid (Below w2.heap.size w2 w5) := Lib.hid (bTrans HB.out HVB.out.2)
      have HBW5 : Hid (Below w.heap.size w w5) := Lib.hid (bTrans HB2.out HB5.out)
      have HTS5 : Hid (∀ W, Below w5.heap.size w5 W → SlF W A1 T) := Lib.hid fun W hW => (HTS.out.below HVB.out.2).below hW
      have HVC : Hid (∀ W, Below w5.heap.size w5 W → W.cell? ⟨vb, 0, none⟩ = some (.slice A1 T.length T.length)) := Lib.hid fun W hW => bCell hW (HVB.out.1.cell 0)
      have HPC5 := Lib.hid (bShiftM HPC.out HB5.out)
      have HSD5 : Hid (∀ W, Below w5.heap.size w5 W → Sl encDd 1 W W.heap.size AD D) := Lib.hid fun W hW => sl_bel HSD.out (bTrans HB5.out hW)
      have HTA5 : Hid (Tab w5) := Lib.hid (tabW HC2.out HB5.out)
      have HAW5 : Hid (∀ W, Below w5.heap.size w5 W → Calls Tryz.prog 16 #[] W fun e w' => e = .returned (.bool true) ∧ Below W.heap.size W w') := Lib.hid fun W hW => HAW.out W (bTrans HBW5.out hW)
      have HMV := Lib.hid (lm_Moves T A1 T.length 1 h D AD cD un w5 (by omega) HTC.out (HTS5.out _ (Below.refl _ _)) hn HDD.out (HSD5.out _ (Below.refl _ _)) hun HTA5.out)
      have V0 := HVC.out _ (Below.refl _ _)
      obtain ⟨K0, K1, K2, K3, K4, K5, K6, K7⟩ := HPC5.out _ (Below.refl _ _)
      clear HLD HLEN HAT HTS HVB HB5 HPC HSD HC2 HAW HKP HT2 HL2 HFI HB
      go_wp2_with fail
      refine HMV.out.mono ?_
      rintro e w6 ⟨⟨Ag, cg, rfl, hsg⟩, hb6⟩
      have HB6 := Lib.hid hb6
      have HSG6 := Lib.hid hsg
      have HIN : Hid (Calls Tryz.prog 18 #[.int .i64 un] w6 fun e w' => e = .returned (.bool (calB un)) ∧ w6 = w') := Lib.hid (by
        have h := r4d_In un w6
        rwa [cal_dec] at h)
      clear hsg hb6 HMV V0 K0 K1 K2 K3 K4 K5 K6 K7
      obtain ⟨L, hLL⟩ : ∃ L, movL T 1 h D un = L := ⟨_, rfl⟩
      obtain ⟨er, hER⟩ : ∃ er, movE T 1 h D un = er := ⟨_, rfl⟩
      have HLL := Lib.hid hLL
      have HER := Lib.hid hER
      rw [hLL] at HSG6 ⊢
      rw [hER]
      clear hLL hER
      go_wp2_with fail
      refine HIN.out.mono ?_
      rintro e wz ⟨rfl, hwz⟩
      subst hwz
      clear HIN
      have HA6 := Lib.hid (HAW5.out w6 HB6.out)
      by_cases hcu : calB un = true
      rotate_left 1
      · as_aux_lemma =>
          have hc' : calB un = false := by simpa using hcu
          have HE15 : Hid (er = 15 ∧ L = []) := Lib.hid (by
            have h1 : movE T 1 h D un = 15 := by unfold movE; rw [if_pos (show calU un = false from hc')]
            exact ⟨by rw [← HER.out, h1], by rw [← HLL.out]; unfold movL; rw [h1]; rfl⟩)
          obtain ⟨rfl, rfl⟩ := HE15.out
          rw [hc']
          clear hcu hc' HE15 HLL HER
          go_wp2_with fail
          refine HA6.out.mono ?_
          rintro e wq ⟨rfl, hbq⟩
          have HF := Lib.hid (bTrans HBW5.out (bTrans HB6.out hbq))
          clear hbq
          go_wp2
          go_ret
          exact ⟨rfl, HF.out⟩
      have hcd : -25567 ≤ un ∧ un ≤ 84005 := by simpa [calB] using hcu
      rw [hcu]
      have HU : Hid (calU un = true) := Lib.hid hcu
      obtain ⟨ce, hce⟩ : ∃ z, chkP h D = z := ⟨_, rfl⟩
      have HCE := Lib.hid hce
      have HCK := Lib.hid (wk_Check h D AD cD w6 hn (HSD5.out _ HB6.out) HDD.out)
      rw [hce] at HCK
      obtain ⟨K0, K1, K2, K3, K4, K5, K6, K7⟩ := HPC5.out _ HB6.out
      clear hcu hce HA6
      go_wp2_with fail
      refine HCK.out.mono ?_
      rintro e w7 ⟨rfl, hb7⟩
      have HB7 : Hid (Below w5.heap.size w5 w7) := Lib.hid (bTrans HB6.out hb7)
      have HSG7 := Lib.hid (Sl.below HSG6.out hb7)
      have HA7 := Lib.hid (HAW5.out w7 HB7.out)
      clear hb7 HCK K0 K1 K2 K3 K4 K5 K6 K7 HSG6 HB6
      by_cases h0 : ce = 0
      rotate_left 1
      · as_aux_lemma =>
          have HE15 : Hid (er = ce ∧ L = []) := Lib.hid (by
            have h1 : movE T 1 h D un = ce := by unfold movE; rw [if_neg (by rw [HU.out]; simp), HCE.out, if_pos h0]
            exact ⟨by rw [← HER.out, h1], by rw [← HLL.out]; unfold movL; rw [h1, if_neg h0]⟩)
          obtain ⟨e1, rfl⟩ := HE15.out
          subst e1
          have hne : (er != 0) = true := bne_iff_ne.2 h0
          clear h0 HE15 HLL HER HCE
          go_wp2_with fail
          refine HA7.out.mono ?_
          rintro e wq ⟨rfl, hbq⟩
          have HF := Lib.hid (bTrans HBW5.out (bTrans HB7.out hbq))
          clear hbq
          go_wp2
          go_ret
          exact ⟨rfl, HF.out⟩
      subst h0
      obtain ⟨ab, hab⟩ : ∃ z, w7.heap.size = z := ⟨_, rfl⟩
      obtain ⟨w8, hw8⟩ : ∃ z, w7.alloc (.cells #[.int .i64 (-25567), .int .i64 (un + 1)] 28) = z := ⟨_, rfl⟩
      have hb78 : Below w7.heap.size w7 w8 := by rw [← hw8]; exact bAlloc _ _
      have hka : Bk ab 28 #[.int .i64 (-25567), .int .i64 (un + 1)] w8 := by rw [← hw8, ← hab]; exact Bk.new _ _ _
      have hb8 : Below w5.heap.size w5 w8 := bTrans HB7.out hb78
      have HB8 := Lib.hid hb8
      have HSG8 := Lib.hid (Sl.below HSG7.out hb78)
      have HSC : Hid (∀ W, Below w8.heap.size w8 W → W.cell? ⟨ab, 0, none⟩ = some (.int .i64 (-25567)) ∧ W.cell? ⟨ab, 1, none⟩ = some (.int .i64 (un + 1))) := Lib.hid fun W hW => ⟨bCell hW (hka.cell 0), bCell hW (hka.cell 1)⟩
      obtain ⟨Z, hZ⟩ : ∃ Z, absX (kA T 1) (-25567) (un + 1) = Z := ⟨_, rfl⟩
      have HZR : Hid (riseA (un + 1) (-25567) Z) := Lib.hid (by rw [← hZ]; exact absX_rise _ (by omega))
      have HOF : Hid (Calls Tryz.prog 11 #[.agg #[.slice A1 T.length T.length], .int .u32 1, .agg #[.int .i64 (-25567), .int .i64 (un + 1)]] w8 fun e w' => (∃ A c, e = .returned (.tuple #[.slice A Z.length c, .int .i64 0]) ∧ Sl encAb 5 w' w'.heap.size A Z) ∧ Below w8.heap.size w8 w') := Lib.hid (by
        have h := ab_Of T A1 T.length 1 (-25567) (un + 1) w8 (by omega) (HTS5.out _ hb8) (by omega) (by omega)
        refine h.mono fun e w' ⟨h1, h2⟩ => ⟨?_, h2⟩
        rw [if_pos (by unfold withB calB; rw [decide_eq_true (p := (-25567 : Int) ≤ -25567) (by omega), decide_eq_true (p := (-25567 : Int) ≤ 84005) (by omega), decide_eq_true (p := -25567 ≤ un + 1 - 1) (by omega), decide_eq_true (p := un + 1 - 1 ≤ 84005) (by omega)]; simp), hZ] at h1
        obtain ⟨A', c', he, ho⟩ := h1
        obtain ⟨A4, c4, e3, _, h4⟩ := own_sl encAb_len ho
        injection e3 with e3 _ _
        rw [← e3] at h4
        exact ⟨A', c', he, h4⟩)
      obtain ⟨G, hG⟩ : ∃ G, gK T 1 = G := ⟨_, rfl⟩
      have hZl : Z.length ≤ 10001 := by
        rw [← hZ]
        unfold absX strQ
        rw [List.length_map]
        exact Nat.le_trans (List.length_filter_le _ _) (strL_len _ _ (Nat.le_trans (chosen_len _ _ _) (by omega)))
      have hGl : G.length ≤ 30 := by rw [← hG]; exact Nat.le_trans (chosen_len _ _ _) hTl
      have HALL : Hid (allM T 1 h D un = grM un G ++ tkM (gOn h D) Z) := Lib.hid (by unfold allM; rw [hG, hZ])
      have HFA : Hid (∀ W, Below w8.heap.size w8 W → Calls Tryz.prog 20 #[.agg #[.slice A1 T.length T.length], .int .u32 1, .int .i64 17] W fun e w' => ∃ A c, e = .returned (.slice A G.length c) ∧ Below W.heap.size W w' ∧ Sl encK 9 w' w'.heap.size A G) := Lib.hid fun W hW => (vi_Facts T A1 T.length 1 17 W (by omega) (HTS5.out _ (bTrans HB8.out hW))).mono fun e w' ⟨⟨v, h1, h2⟩, h3⟩ => by
        have hX' : chosen (ofPK 1 17) T T.length = G := hG
        rw [hX'] at h2
        obtain ⟨A, c, rfl, _, h4⟩ := own_sl encK_len h2
        exact ⟨A, c, h1, h3, h4⟩
      have V0 := HVC.out _ HB8.out
      obtain ⟨S0, S1⟩ := HSC.out _ (Below.refl _ _)
      have HE := Lib.hid (And.intro hab hw8)
      clear hab hw8 hb78 hka hb8 hZ hG HB7 HSG7 HA7
      go_upto_region 18 with fail
      rw [HE.out.1, HE.out.2]
      clear HE
      go_wp2_with fail
      refine HOF.out.mono ?_
      rintro e w9 ⟨⟨Az, cz, rfl, hsz⟩, hb9⟩
      have HB9 := Lib.hid hb9
      have HSZ := Lib.hid hsz
      have HF9 := Lib.hid (HFA.out w9 hb9)
      clear V0 S0 S1 HOF hsz hb9
      have V0 := HVC.out _ (bTrans HB8.out HB9.out)
      go_wp2_with fail
      refine HF9.out.mono ?_
      rintro e w10 ⟨Af, cf, rfl, hb10, hsf⟩
      have HBX : Hid (Below w5.heap.size w5 w10) := Lib.hid (bTrans HB8.out (bTrans HB9.out hb10))
      have HSZ10 : Hid (∀ W, Below w10.heap.size w10 W → Sl encAb 5 W W.heap.size Az Z) := Lib.hid fun W hW => sl_bel (sl_bel HSZ.out hb10) hW
      have HSGX : Hid (∀ W, Below w10.heap.size w10 W → Sl Mo.encM 3 W W.heap.size Ag L) := Lib.hid fun W hW => sl_bel HSG8.out (bTrans HB9.out (bTrans hb10 hW))
      have HSF := Lib.hid hsf
      clear V0 HF9 HFA HSZ HB9 hb10 hsf HSG8 HSC HB8
      go_wp2
      go_loopw [18, 20] (fun ov iv wr => ∃ i : Nat, i ≤ G.length ∧ iv = .int .i64 i ∧ (∃ v, v = ov ∧ Hid (OwnMo w10.heap.size v (ss Mo.lt (grM un (G.take i))) wr)) ∧ Hid (Below w10.heap.size w10 wr)) (fun _ iv _ => G.length - (intOf iv).toNat)
      case atStart => exact ⟨0, Nat.zero_le _, rfl, ⟨_, rfl, Lib.hid (Own.nil _)⟩, Lib.hid (Below.refl _ _)⟩
      case round =>
        obtain ⟨i, hi, rfl, ⟨v, rfl, HO⟩, HB⟩ := hrel
        obtain ⟨wo, hwo⟩ : ∃ x : World, x = wr := ⟨_, rfl⟩
        subst hwo
        by_cases hlt : i < G.length
        · as_aux_lemma =>
            obtain ⟨⟨xN, ⟨xid, xpe, xki, xfr, xto, xco, xnu, xtx⟩⟩, hx⟩ : ∃ x, G[i]? = some x := ⟨_, List.getElem?_eq_getElem hlt⟩
            obtain ⟨g, o, rfl, _, hat⟩ := HSF.out (by intro h; simp [h] at hlt)
            have hat1 := fun j u (hu : (encK (xN, ⟨xid, xpe, xki, xfr, xto, xco, xnu, xtx⟩))[j]? = some u) => bCell HB.out (hat i _ hx j u hu)
            have C1 : wo.cell? ⟨g, o + i * 9 + 1, none⟩ = some (.int .u32 xid) := hat1 1 _ rfl
            have C2 : wo.cell? ⟨g, o + i * 9 + 2, none⟩ = some (.int .u32 xpe) := hat1 2 _ rfl
            have C3 : wo.cell? ⟨g, o + i * 9 + 3, none⟩ = some (.int .i64 xki) := hat1 3 _ rfl
            have C4 : wo.cell? ⟨g, o + i * 9 + 4, none⟩ = some (.int .i64 xfr) := hat1 4 _ rfl
            have C5 : wo.cell? ⟨g, o + i * 9 + 5, none⟩ = some (.int .i64 xto) := hat1 5 _ rfl
            have C6 : wo.cell? ⟨g, o + i * 9 + 6, none⟩ = some (.string xco) := hat1 6 _ rfl
            have C7 : wo.cell? ⟨g, o + i * 9 + 7, none⟩ = some (.int .i64 xnu) := hat1 7 _ rfl
            have C8 : wo.cell? ⟨g, o + i * 9 + 8, none⟩ = some (.string xtx) := hat1 8 _ rfl
            have HGT := Lib.hid (grM_take (un := un) hx)
            have HGP := Lib.hid (Nat.le_trans (grM_part un G i) hGl)
            obtain ⟨S, hS⟩ : ∃ S, grM un (G.take i) = S := ⟨_, rfl⟩
            rw [hS] at HO HGT HGP
            obtain ⟨fb, hfb⟩ : ∃ z, wo.heap.size = z := ⟨_, rfl⟩
            obtain ⟨wx, hwx⟩ : ∃ z, wo.alloc (.cells #[.int .u32 xid, .int .u32 xpe, .int .i64 xki, .int .i64 xfr, .int .i64 xto, .string xco, .int .i64 xnu, .string xtx] 26) = z := ⟨_, rfl⟩
            have hbx : Below wo.heap.size wo wx := by rw [← hwx]; exact bAlloc _ _
            have hkx : Bk fb 26 #[.int .u32 xid, .int .u32 xpe, .int .i64 xki, .int .i64 xfr, .int .i64 xto, .string xco, .int .i64 xnu, .string xtx] wx := by rw [← hwx, ← hfb]; exact Bk.new _ _ _
            have HBN : Hid (Below w10.heap.size w10 wx) := Lib.hid (bTrans HB.out hbx)
            have HON : Hid (OwnMo w10.heap.size v (ss Mo.lt S) wx) := Lib.hid (own_bel HO.out hbx)
            have X3 : wx.cell? ⟨fb, 3, none⟩ = some (.int .i64 xfr) := hkx.cell 3
            have X6 : wx.cell? ⟨fb, 6, none⟩ = some (.int .i64 xnu) := hkx.cell 6
            have HADD := Lib.hid (la_add S w10.heap.size v (xfr, xnu, 0) wx (by have := HGP.out; omega) HON.out)
            simp only at HADD
            have HE := Lib.hid (And.intro hfb hwx)
            clear hx hat hat1 hS hfb hwx hbx hkx HO HB
            go_upto_region 27 with fail
            rw [HE.out.1, HE.out.2]
            clear HE C1 C2 C3 C4 C5 C6 C7 C8
            by_cases hle : xfr ≤ un
            · have HG3 : Hid (grM un (G.take (i + 1)) = S ++ [(xfr, xnu, 0)]) := Lib.hid (by rw [HGT.out, if_pos hle])
              clear HGT HGP
              go_wp2_with fail
              refine HADD.out.mono ?_
              rintro e wy ⟨⟨v', rfl, hoy⟩, hby⟩
              have HBM : Hid (Below w10.heap.size w10 wy) := Lib.hid (bTrans HBN.out hby)
              have HOY : Hid (OwnMo w10.heap.size v' (ss Mo.lt (S ++ [(xfr, xnu, 0)])) wy) := Lib.hid (own_lowerM hoy HBN.out.size)
              clear hoy hby HADD X3 X6 HON HBN
              go_wp2
              exact ⟨⟨i + 1, by omega, by go_num, ⟨v', rfl, by rw [HG3.out]; exact HOY⟩, HBM⟩, by simp [intOf]; omega⟩
            · have HG3 : Hid (grM un (G.take (i + 1)) = S) := Lib.hid (by rw [HGT.out, if_neg hle, List.append_nil])
              clear HGT HGP HADD X6
              go_wp2
              exact ⟨⟨i + 1, by omega, by go_num, ⟨v, rfl, by rw [HG3.out]; exact HON⟩, HBN⟩, by simp [intOf]; omega⟩
        · obtain rfl : i = G.length := by omega
          rw [List.take_length] at HO
          have hSl : (grM un G).length ≤ 30 := Nat.le_trans (grM_len un G) hGl
          obtain ⟨Sg, hSg⟩ : ∃ S, grM un G = S := ⟨_, rfl⟩
          rw [hSg] at HO HALL hSl
          have HO0 : Hid (OwnMo w10.heap.size v (ss Mo.lt (cap4 (Sg ++ tkM (gOn h D) (Z.take 0)))) wo) := Lib.hid (by
            have e : cap4 (Sg ++ tkM (gOn h D) (Z.take 0)) = Sg := by
              rw [List.take_zero]
              show cap4 (Sg ++ []) = Sg
              rw [List.append_nil, cap4_small (by omega)]
            rw [e]
            exact HO.out)
          have HB0 := HB
          clear hSg hlt HSF HO hi HB
          go_wp2
          go_loopw [18, 22] (fun ov iv wr => ∃ i : Nat, i ≤ Z.length ∧ iv = .int .i64 i ∧ (∃ v, v = ov ∧ Hid (OwnMo w10.heap.size v (ss Mo.lt (cap4 (Sg ++ tkM (gOn h D) (Z.take i)))) wr)) ∧ Hid (Below w10.heap.size w10 wr)) (fun _ iv _ => Z.length - (intOf iv).toNat)
          case atStart => exact ⟨0, Nat.zero_le _, rfl, ⟨_, rfl, HO0⟩, HB0⟩
          case round =>
            clear HO0 HB0
            obtain ⟨i, hi, rfl, ⟨v, rfl, HO⟩, HB⟩ := hrel
            obtain ⟨wo, hwo⟩ : ∃ x : World, x = wr := ⟨_, rfl⟩
            subst hwo
            by_cases hlt : i < Z.length
            · obtain ⟨⟨xf, xt, xk, xp, xn⟩, hx⟩ : ∃ x, Z[i]? = some x := ⟨_, List.getElem?_eq_getElem hlt⟩
              obtain ⟨g, o, rfl, _, hat⟩ := HSZ10.out _ (Below.refl _ _) (by intro h; simp [h] at hlt)
              have HCZ : Hid (∀ W, Below w10.heap.size w10 W → W.cell? ⟨g, o + i * 5, none⟩ = some (.int .i64 xf) ∧ W.cell? ⟨g, o + i * 5 + 1, none⟩ = some (.int .i64 xt) ∧ W.cell? ⟨g, o + i * 5 + 2, none⟩ = some (.int .i64 xk)) := Lib.hid fun W hW => ⟨bCell hW (hat i _ hx 0 _ rfl), bCell hW (hat i _ hx 1 _ rfl), bCell hW (hat i _ hx 2 _ rfl)⟩
              obtain ⟨hf1, hf2, hf3⟩ := riseA.at_ HZR.out hx
              simp only at hf1 hf2 hf3
              have HTK := Lib.hid (tkM_take (g := gOn h D) hx)
              obtain ⟨R, hR⟩ : ∃ R, Sg ++ tkM (gOn h D) (Z.take i) = R := ⟨_, rfl⟩
              have HRN : Hid (Sg ++ tkM (gOn h D) (Z.take (i + 1)) = R ++ tkOne (gOn h D) ⟨xf, xt, xk, xp, xn⟩) := Lib.hid (by rw [HTK.out, ← List.append_assoc, hR])
              rw [hR] at HO
              obtain ⟨C0, C1, C2⟩ := HCZ.out _ HB.out
              have hil : (i : Int) < (Z.length : Int) := by omega
              clear hx hat hR HTK
              by_cases hk1 : xk = 1
              · as_aux_lemma =>
                  subst hk1
                  have HRM : Hid (Sg ++ tkM (gOn h D) (Z.take (i + 1)) = R ++ dayL (gOn h D) xf (xt - xf).toNat) := Lib.hid (by rw [HRN.out]; unfold tkOne; rw [if_pos rfl])
                  clear HRN
                  go_wp2
                  clear C0 C1 C2
                  go_loopw [18, 23] (fun ov dv wr => ∃ j : Nat, (j : Int) ≤ xt - xf ∧ dv = .int .i64 (xf + j) ∧ (∃ v, v = ov ∧ Hid (OwnMo w10.heap.size v (ss Mo.lt (cap4 (R ++ dayL (gOn h D) xf j))) wr)) ∧ Hid (Below w10.heap.size w10 wr)) (fun _ dv _ => (xt - intOf dv).toNat)
                  case atStart => exact ⟨0, by omega, by simp, ⟨_, rfl, by simpa [dayL] using HO⟩, HB⟩
                  case round =>
                    clear HO HB
                    obtain ⟨j, hj, rfl, ⟨v, rfl, HO⟩, HB⟩ := hrel
                    obtain ⟨wo, hwo⟩ : ∃ x : World, x = wr := ⟨_, rfl⟩
                    subst hwo
                    obtain ⟨d, hd⟩ : ∃ d, xf + (j : Int) = d := ⟨_, rfl⟩
                    rw [hd]
                    obtain ⟨_, C1, _⟩ := HCZ.out _ HB.out
                    by_cases hlt2 : d < xt
                    · have HDE := Lib.hid hd
                      have hdb : -25567 ≤ d ∧ d ≤ 84006 := by omega
                      have hdu : d ≤ un := by omega
                      have HSTEP : Hid (dayL (gOn h D) xf (j + 1) = dayL (gOn h D) xf j ++ (if decide (0 < onP h D d) = true then [(d, 0, 100)] else [])) := Lib.hid (by rw [dayL, hd])
                      obtain ⟨M, hM⟩ := dayL_split (gOn h D) xf (j := j) (n := (xt - xf).toNat) (by omega)
                      obtain ⟨Y, hY⟩ : ∃ Y, R ++ dayL (gOn h D) xf j = Y := ⟨_, rfl⟩
                      have HFULL : Hid (4096 < (cap4 Y).length → cap4 (Sg ++ tkM (gOn h D) (Z.take (i + 1))) = cap4 Y) := Lib.hid fun hf => by
                        rw [HRM.out, hM, ← List.append_assoc, hY]
                        exact cap4_full hf
                      have HY2 : Hid (R ++ dayL (gOn h D) xf (j + 1) = Y ++ (if decide (0 < onP h D d) = true then [(d, 0, 100)] else [])) := Lib.hid (by rw [HSTEP.out, ← List.append_assoc, hY])
                      rw [hY] at HO
                      obtain ⟨Av, cv, ev, _⟩ := own_slM HO.out
                      have HSN : Hid ((ss Mo.lt (cap4 Y)).length = (cap4 Y).length) := Lib.hid (ss_length _)
                      have HYL := Lib.hid (cap4_len Y).1
                      obtain ⟨n, hn'⟩ : ∃ n, (cap4 Y).length = n := ⟨_, rfl⟩
                      rw [hn'] at HSN HYL HFULL
                      rw [HSN.out] at ev
                      have HNY := Lib.hid hn'
                      subst ev
                      have HCA := Lib.hid (wk_OnP h D AD cD d wo hn HDD.out (HSD5.out _ (bTrans HBX.out HB.out)) (by omega))
                      obtain ⟨K0, K1, K2, K3, K4, K5, K6, K7⟩ := HPC5.out _ (bTrans HBX.out HB.out)
                      clear hd HSTEP hM hY hn'
                      by_cases hful : 4096 < n
                      · as_aux_lemma =>
                          have HO9 : Hid (OwnMo w10.heap.size (.slice Av n cv) (ss Mo.lt (cap4 (Sg ++ tkM (gOn h D) (Z.take (i + 1))))) wo) := Lib.hid (by rw [HFULL.out hful]; exact HO.out)
                          have hful2 : (4096 : Int) < (n : Int) := by omega
                          clear HFULL HCA HY2 HO hful K0 K1 K2 K3 K4 K5 K6 K7
                          go_wp2
                          exact ⟨⟨i + 1, by omega, by go_num, ⟨_, rfl, HO9⟩, HB⟩, by simp [intOf]; omega⟩
                      · as_aux_lemma =>
                          have hful2 : ¬ (4096 : Int) < (n : Int) := by omega
                          have HN96 := Lib.hid hful
                          obtain ⟨m, hm⟩ : ∃ m, onP h D d = m := ⟨_, rfl⟩
                          rw [hm] at HCA HY2
                          clear HFULL hm hful
                          go_wp2_with fail
                          refine HCA.out.mono ?_
                          rintro e w11 ⟨rfl, hb11⟩
                          have HB11 : Hid (Below w10.heap.size w10 w11) := Lib.hid (bTrans HB.out hb11)
                          have HO11 : Hid (OwnMo w10.heap.size (.slice Av n cv) (ss Mo.lt (cap4 Y)) w11) := Lib.hid (own_bel HO.out hb11)
                          clear hb11 HCA K0 K1 K2 K3 K4 K5 K6 K7 C1 HO HB
                          by_cases hm0 : 0 < m
                          · have HY3 : Hid (cap4 (R ++ dayL (gOn h D) xf (j + 1)) = cap4 Y ++ [(d, 0, 100)]) := Lib.hid (by
                              rw [HY2.out, if_pos (decide_eq_true hm0)]
                              exact cap4_snoc (by rw [HNY.out]; have := HN96.out; omega))
                            have HADD := Lib.hid (la_add (cap4 Y) w10.heap.size (.slice Av n cv) (d, 0, 100) w11 (by rw [HNY.out]; have := HN96.out; omega) HO11.out)
                            simp only at HADD
                            clear HY2
                            go_wp2_with fail
                            refine HADD.out.mono ?_
                            rintro e wy ⟨⟨v', rfl, hoy⟩, hby⟩
                            have HBM : Hid (Below w10.heap.size w10 wy) := Lib.hid (bTrans HB11.out hby)
                            have HOY : Hid (OwnMo w10.heap.size v' (ss Mo.lt (cap4 Y ++ [(d, 0, 100)])) wy) := Lib.hid (own_lowerM hoy HB11.out.size)
                            clear hoy hby HADD HO11 HB11
                            go_wp2
                            exact ⟨⟨j + 1, by have := HDE.out; omega, by have := HDE.out; congr 1; omega, ⟨v', rfl, by rw [HY3.out]; exact HOY⟩, HBM⟩, by simp [intOf]; omega⟩
                          · have HY3 : Hid (R ++ dayL (gOn h D) xf (j + 1) = Y) := Lib.hid (by rw [HY2.out, if_neg (by simpa using hm0), List.append_nil])
                            clear HY2
                            go_wp2
                            exact ⟨⟨j + 1, by have := HDE.out; omega, by have := HDE.out; congr 1; omega, ⟨_, rfl, by rw [HY3.out]; exact HO11⟩, HB11⟩, by simp [intOf]; omega⟩
                    · have HO9 : Hid (OwnMo w10.heap.size v (ss Mo.lt (cap4 (Sg ++ tkM (gOn h D) (Z.take (i + 1))))) wo) := Lib.hid (by
                        rw [HRM.out, show (xt - xf).toNat = j by omega]
                        exact HO.out)
                      clear hd HO
                      go_wp2
                      exact ⟨⟨i + 1, by omega, by go_num, ⟨v, rfl, HO9⟩, HB⟩, by simp [intOf]; omega⟩
              · as_aux_lemma =>
                  have HRM : Hid (Sg ++ tkM (gOn h D) (Z.take (i + 1)) = R) := Lib.hid (by rw [HRN.out]; unfold tkOne; rw [if_neg hk1, List.append_nil])
                  have hk2 : (xk != 1) = true := bne_iff_ne.2 hk1
                  clear HRN C0 C1
                  go_wp2
                  exact ⟨⟨i + 1, by omega, by go_num, ⟨v, rfl, by rw [HRM.out]; exact HO⟩, HB⟩, by simp [intOf]; omega⟩
            · obtain rfl : i = Z.length := by omega
              rw [List.take_length] at HO
              obtain ⟨All, hAll⟩ : ∃ X, Sg ++ tkM (gOn h D) Z = X := ⟨_, rfl⟩
              rw [hAll] at HO HALL
              obtain ⟨Av, cv, ev, hsv⟩ := own_slM HO.out
              have HSV := Lib.hid hsv
              have HSN : Hid ((ss Mo.lt (cap4 All)).length = (cap4 All).length) := Lib.hid (ss_length _)
              have HCL := Lib.hid (cap4_len All)
              obtain ⟨n, hn'⟩ : ∃ n, (cap4 All).length = n := ⟨_, rfl⟩
              rw [hn'] at HSN HCL
              rw [HSN.out] at ev
              have HNY := Lib.hid hn'
              subst ev
              have HAo := Lib.hid (HAW5.out wo (bTrans HBX.out HB.out))
              have HBo : Hid (Below w5.heap.size w5 wo) := Lib.hid (bTrans HBX.out HB.out)
              clear hAll hn' hlt HO hsv
              by_cases hful : 4096 < n
              · as_aux_lemma =>
                  have HE15 : Hid (er = 5 ∧ L = []) := Lib.hid (by
                    have h1 : movE T 1 h D un = 5 := by unfold movE; rw [if_neg (by rw [HU.out]; simp), if_neg (by rw [HCE.out]; simp), HALL.out, if_pos (HCL.out.2.1 hful)]
                    exact ⟨by rw [← HER.out, h1], by rw [← HLL.out]; unfold movL; rw [h1]; rfl⟩)
                  obtain ⟨rfl, rfl⟩ := HE15.out
                  have hful2 : (4096 : Int) < (n : Int) := by omega
                  clear HE15 HLL HER hful HSV
                  go_wp2_with fail
                  refine HAo.out.mono ?_
                  rintro e wq ⟨rfl, hbq⟩
                  have HF := Lib.hid (bTrans HBW5.out (bTrans HBo.out hbq))
                  clear hbq
                  go_wp2
                  go_ret
                  exact ⟨rfl, HF.out⟩
              · as_aux_lemma =>
                  have hal : ¬ 4096 < All.length := fun hh => hful (HCL.out.2.2 hh)
                  have hcapA : cap4 All = All := cap4_small (by omega)
                  have HE15 : Hid (er = 0 ∧ L = ss Mo.lt (cap4 All)) := Lib.hid (by
                    have h1 : movE T 1 h D un = 0 := by unfold movE; rw [if_neg (by rw [HU.out]; simp), if_neg (by rw [HCE.out]; simp), HALL.out, if_neg hal]
                    exact ⟨by rw [← HER.out, h1], by rw [← HLL.out]; unfold movL; rw [h1, if_pos rfl, HALL.out, hcapA]⟩)
                  have hLn : L.length = n := by rw [HE15.out.2, HSN.out]
                  have HSL := Lib.hid (HSGX.out _ HB.out)
                  rw [← HE15.out.2] at HSV
                  obtain ⟨rfl, _⟩ := HE15.out
                  have hful2 : ¬ (4096 : Int) < (n : Int) := by omega
                  rw [hLn]
                  clear hal hcapA HLL HER hful HE15 HALL
                  go_wp2
                  go_loopw [24] (fun iv wr => ∃ i : Nat, i ≤ n ∧ iv = .int .i64 i ∧ Hid (Below wo.heap.size wo wr)) (fun iv _ => n - (intOf iv).toNat)
                  case atStart => exact ⟨0, Nat.zero_le _, rfl, Lib.hid (Below.refl _ _)⟩
                  case round =>
                    obtain ⟨i, hi, rfl, HBR⟩ := hrel
                    obtain ⟨wu, hwu⟩ : ∃ x : World, x = wr := ⟨_, rfl⟩
                    subst hwu
                    by_cases hlt : i < n
                    · obtain ⟨⟨p0, p1, p2⟩, hp⟩ : ∃ x, L[i]? = some x := ⟨_, List.getElem?_eq_getElem (by omega)⟩
                      obtain ⟨g1, o1, rfl, _, hat1⟩ := HSL.out (by intro h; rw [h] at hp; simp at hp)
                      obtain ⟨g2, o2, rfl, _, hat2⟩ := HSV.out (by intro h; rw [h] at hp; simp at hp)
                      have h1 := hat1 i _ hp
                      have h2 := hat2 i _ hp
                      have C0 : wu.cell? ⟨g1, o1 + i * 3, none⟩ = some (.int .i64 p0) := bCell HBR.out (h1 0 _ rfl)
                      have C1 : wu.cell? ⟨g1, o1 + i * 3 + 1, none⟩ = some (.int .i64 p1) := bCell HBR.out (h1 1 _ rfl)
                      have C2 : wu.cell? ⟨g1, o1 + i * 3 + 2, none⟩ = some (.int .i64 p2) := bCell HBR.out (h1 2 _ rfl)
                      have D0 : wu.cell? ⟨g2, o2 + i * 3, none⟩ = some (.int .i64 p0) := bCell HBR.out (h2 0 _ rfl)
                      have D1 : wu.cell? ⟨g2, o2 + i * 3 + 1, none⟩ = some (.int .i64 p1) := bCell HBR.out (h2 1 _ rfl)
                      have D2 : wu.cell? ⟨g2, o2 + i * 3 + 2, none⟩ = some (.int .i64 p2) := bCell HBR.out (h2 2 _ rfl)
                      have hmx : n < 2 ^ 40 := by have := HCL.out.1; omega
                      have hqs := eqMo p0 p1 p2
                      clear h1 h2 hat1 hat2 hp hLn
                      go_upto_region 46 with fail
                      go_quiet (fail)
                      rename_i nq
                      have HBY : Hid (Below wo.heap.size wo (wu.drewN nq)) := Lib.hid (HBR.out.trans ((bDrewN wu nq).mono HBR.out.size))
                      clear HBR C0 C1 C2 D0 D1 D2 hqs
                      go_wp2
                      exact ⟨⟨i + 1, by omega, by go_num, HBY⟩, by simp [intOf]; omega⟩
                    · obtain rfl : i = n := by omega
                      have HBY : Hid (Below w5.heap.size w5 wu) := Lib.hid (bTrans HBo.out HBR.out)
                      have HAu := Lib.hid (HAW5.out wu HBY.out)
                      clear hlt HBR hLn
                      go_wp2_with fail
                      refine HAu.out.mono ?_
                      rintro e wq ⟨rfl, hbq⟩
                      have HF := Lib.hid (bTrans HBW5.out (bTrans HBY.out hbq))
                      clear hbq
                      go_wp2
                      go_ret
                      exact ⟨rfl, HF.out⟩
end Go.Proofs.YtmngghglcgmkeaaGreatDoor
