/- The reference's reading of a rate, walked. -/
import Derived.Test.YtdpejolpjhlibaaGreatDoorRd2
import Derived.Deep.Cut
import Derived.Deep.CutRange
namespace Go.Proofs.YtdpejolpjhlibaaGreatDoor
open Go.RowKit Go.Sort

theorem whole_bad {a : List UInt8} (hd : a.all digC = true) : wholeB a = false ↔ a.length = 0 ∨ (1 < a.length ∧ a.head? = some 48) := by
  unfold wholeB neat
  rw [hd]
  match a with
  | [] => simp
  | [x] => simp
  | x :: y :: z => simp
theorem part_bad {f : List UInt8} (hd : f.all digC = true) : partB f = false ↔ f.length = 0 ∨ 4 < f.length ∨ f.getLast? = some 48 := by
  unfold partB digsB
  rw [hd, Bool.true_and]
  by_cases h0 : f = []
  · subst h0; simp
  · have hl : 0 < f.length := List.length_pos_iff.2 h0
    have e : (f == []) = false := by simpa using h0
    rw [e]
    by_cases h4 : f.length ≤ 4
    · by_cases h5 : f.getLast? = some 48
      · rw [h5]; simp [h4]
      · have : (f.getLast? == some 48) = false := by simpa using h5
        rw [this]
        simp [h4, h5]; omega
    · simp [h4]; omega
theorem last_at {f : List UInt8} {z : UInt8} (h : f[f.length - 1]? = some z) : f.getLast? = some z := by rw [List.getLast?_eq_getElem?]; exact h
/-- What Parse answers, by the number that it has read. -/
def ansV (l : List UInt8) (at' N : Nat) : Prop := rateE l = if N = 0 ∧ at' = 1 then (0, 3) else if 1000000000 < N then (0, 2) else (if at' = 1 then -(N : Int) else N, 0)
theorem ans1 {l r a t f : List UInt8} {neg : Bool} {at' n : Nat} (h : Tx l r a t neg) (hw : wholeB a = true) (ht : t = 46 :: (f ++ [37])) (hp : partB f = true) (hat : (if neg = true then 1 else 0) = at') (hn : SatV a n) (hl : f.length ≤ 4) (hd : f.all digC = true) : ansV l at' (n * 10000 + fracV f f.length) := by
  have h1 := h.good1 hw ht hp
  have h2 := part_pos hp
  rw [← fracV_all hl] at h2
  have h3 := sat_rate (f := f) hn (fracV_lt hd hl) (fracV_all hl)
  unfold ansV
  have h6 : ¬ (n * 10000 + fracV f f.length = 0 ∧ at' = 1) := by omega
  rw [h1, if_neg h6]
  by_cases h4 : 1000000000 < rateN a f
  · rw [if_pos h4, if_pos (h3.1.2 h4)]
  · rw [if_neg h4, if_neg (fun h => h4 (h3.1.1 h)), h3.2 h4]
    unfold signed
    rw [← hat]
    cases neg <;> simp
theorem ans2 {l r a t : List UInt8} {neg : Bool} {at' n : Nat} (h : Tx l r a t neg) (hw : wholeB a = true) (ht : t = [37]) (hat : (if neg = true then 1 else 0) = at') (hn : SatV a n) : ansV l at' (n * 10000 + fracV [] 0) := by
  have h1 := h.good2 hw ht
  have h3 := sat_rate (f := []) (F := 0) hn (by omega) (by rw [← fracV_all (f := []) (by simp), List.length_nil, fracV_zero])
  have hz := zero_whole hw
  have hn0 : n = 0 ↔ a = [48] := by
    rcases hn with ⟨h4, _⟩ | ⟨h4, _, h5⟩
    · rw [h4]; exact hz
    · have : ¬ a = [48] := fun h => by have := hz.2 h; omega
      simp only [this, iff_false]; omega
  rw [fracV_zero]
  unfold ansV
  rw [h1]
  by_cases h5 : a = [48]
  · have hn1 := hn0.2 h5
    subst hn1
    have h4 : ¬ 1000000000 < rateN a [] := by
      intro h6
      have := h3.1.2 h6
      omega
    have h7 := h3.2 h4
    rw [h5] at h4 h7 ⊢
    cases neg with
    | true =>
      have : at' = 1 := by rw [← hat]; rfl
      rw [if_pos (by simp), if_pos (by omega)]
    | false =>
      have : at' = 0 := by rw [← hat]; rfl
      rw [if_neg (by simp), if_neg h4, if_neg (by omega), if_neg (by omega), if_neg (by omega), ← h7]
      rfl
  · have hn1 : n ≠ 0 := fun h => h5 (hn0.1 h)
    have h6 : (neg && a == [48]) = false := by
      have : (a == [48]) = false := by simpa using h5
      rw [this]; simp
    have h8 : ¬ (n * 10000 + 0 = 0 ∧ at' = 1) := by omega
    rw [h6, if_neg (show ¬ (false = true) by simp), if_neg h8]
    by_cases h4 : 1000000000 < rateN a []
    · rw [if_pos h4, if_pos (h3.1.2 h4)]
    · rw [if_neg h4, if_neg (fun h => h4 (h3.1.1 h)), h3.2 h4]
      unfold signed
      rw [← hat]
      cases neg <;> simp
theorem u64_eq {a b : Int} (h : a = b) : Value.int .u64 a = .int .u64 b := by rw [h]
theorem rate_ans {l : List UInt8} {x : Int × Int} {p q : Int} (h : rateE l = x) (hp : x.1 = p) (hq : x.2 = q) : Ending.returned (.tuple #[.int .i64 p, .int .i64 q]) = .returned (rateR l) := by subst hp; subst hq; exact rateR_of h
set_option maxHeartbeats 4000000 in
set_option maxRecDepth 100000 in
theorem r2_Parse (s : ByteArray) (w : World) (hs : s.size ≤ 1000000) : Calls Tryz.prog 111 #[.string s] w fun e w' => e = .returned (rateR (ls s)) ∧ w = w' := by
  by_cases h0 : s.size = 0
  · have he : s.toList.isEmpty = true := by rw [isEmpty_ls, (nil_iff s).2 h0]; rfl
    have HF : Hid (rateE (ls s) = (0, 10)) := Lib.hid (by rw [(nil_iff s).2 h0]; rfl)
    clear h0
    go_enter Tryz.func111, Tryz.ntmps111
    go_wp2
    go_ret2
    exact ⟨rate_ans HF.out rfl rfl, rfl⟩
  have he : s.toList.isEmpty = false := by
    rw [isEmpty_ls]
    have : ls s ≠ [] := fun h => h0 ((nil_iff s).1 h)
    simpa using this
  obtain ⟨b0, hb0, hbb0⟩ := byte_some (s := s) (k := 0) (by omega)
  have hra : ∀ W, (Instr.index 9 (.string s) (.int .i64 0)).run Tryz.prog W = .ok (.int .u8 (b0.toNat : Int)) W := fun W => by rw [← hbb0]; exact run_at (P := Tryz.prog) 9 Tryz.underlying9 s 0 (by omega) W
  obtain ⟨neg, hneg⟩ : ∃ x, ((ls s).head? == some 45) = x := ⟨_, rfl⟩
  obtain ⟨at', hat⟩ : ∃ x : Nat, (if neg = true then 1 else 0) = x := ⟨_, rfl⟩
  have hat1 : at' ≤ 1 := by rw [← hat]; split <;> omega
  have hbn : ((b0.toNat : Int) == 45) = neg := by
    rw [← hneg, List.head?_eq_getElem?, hb0]
    by_cases h : b0 = 45
    · subst h; rfl
    · have h1 : b0.toNat ≠ 45 := fun h2 => h (UInt8.toNat_inj.1 h2)
      have h2 : (some b0 == some (45 : UInt8)) = false := by simpa using h
      rw [h2]; simp; omega
  obtain ⟨r, hr⟩ : ∃ r, (ls s).drop at' = r := ⟨_, rfl⟩
  obtain ⟨a, ha⟩ : ∃ a, r.takeWhile digC = a := ⟨_, rfl⟩
  obtain ⟨t, ht⟩ : ∃ t, r.dropWhile digC = t := ⟨_, rfl⟩
  have hrat : r = a ++ t := by rw [← ha, ← ht, List.takeWhile_append_dropWhile]
  have htx : Tx (ls s) r a t neg := ⟨fun h => h0 ((nil_iff s).1 h), hneg, by
    rw [← hr, ← hat]; cases neg <;> simp, ha.symm, hrat⟩
  have htd : ∀ c u, t = c :: u → digC c = false := fun c u h => by
    have h1 : (r.dropWhile digC).head? = some c := by rw [ht, h]; rfl
    have := List.head?_dropWhile_not digC r
    rw [h1] at this
    simpa using this
  obtain ⟨wn, hwn⟩ : ∃ n, a.length = n := ⟨_, rfl⟩
  have hrl : r.length = s.size - at' := by rw [← hr, List.length_drop, ls_len]
  have hsz : at' + wn + t.length = s.size := by
    rw [hrat, List.length_append, hwn] at hrl
    omega
  have hge : ∀ (i : Nat) (c : UInt8), r[i]? = some c → ∀ W, (Instr.index 9 (.string s) (.int .i64 ((at' : Int) + i))).run Tryz.prog W = .ok (.int .u8 (c.toNat : Int)) W := fun i c hc W => by
    have h1 : (ls s)[at' + i]? = some c := by rw [← hr, List.getElem?_drop] at hc; exact hc
    have h2 := (List.getElem?_eq_some_iff.1 h1).1
    rw [ls_len] at h2
    obtain ⟨c', hc', hcc⟩ := byte_some (s := s) (k := at' + i) h2
    rw [h1] at hc'
    cases hc'
    have := run_at (P := Tryz.prog) 9 Tryz.underlying9 s (at' + i) h2 W
    rw [hcc, Int.natCast_add] at this
    exact this
  have HGE := Lib.hid hge
  have HTX := Lib.hid htx
  have HTD := Lib.hid htd
  have HAT := Lib.hid hat
  have HR := Lib.hid (And.intro hr (And.intro hrat hwn))
  have HSZ := Lib.hid hsz
  have HDG : Hid (∀ W, Calls Tryz.prog 130 #[.string s, .int .i64 at'] W fun e w' => e = .returned (.int .i64 wn) ∧ W = w') := Lib.hid fun W => by
    have h := r2_digits s at' W hs (by omega)
    rw [hr, ha, hwn] at h
    exact h
  have hwl : wn ≤ 1000000 := by omega
  clear hb0 hbb0 hneg hr ha ht hrat htx htd hwn hrl hsz hge h0
  go_enter Tryz.func111, Tryz.ntmps111
  go_upto_if 16 with fail
  go_cut [4] from 16 to 16 (fun v wx => v = .int .i64 at' ∧ w = wx)
  case first =>
    have hat := HAT.out
    cases neg with
    | true =>
      have h1 : (1 : Nat) = at' := hat
      clear hat
      go_wp2
      go_meet
      exact ⟨by rw [← h1]; rfl, rfl⟩
    | false =>
      have h1 : (0 : Nat) = at' := hat
      clear hat
      go_wp2
      go_meet
      exact ⟨by rw [← h1]; rfl, rfl⟩
  case rest =>
  obtain ⟨rfl, rfl⟩ := hcut
  clear hra hbn he
  go_wp2_with fail
  refine (HDG.out _).mono ?_
  rintro e w1 ⟨rfl, rfl⟩
  go_upto_region 7 with fail
  go_cut [31] from 20 to 31 (fun q wx => q = .bool (!wholeB a) ∧ w = wx)
  case first =>
    have HWB := Lib.hid (whole_bad HTX.out.digs)
    by_cases h1 : wn = 0
    · have d1 : ((wn : Int) == 0) = true := by simp [h1]
      have HV : Hid (wholeB a = false) := Lib.hid (HWB.out.2 (.inl (by rw [HR.out.2.2]; exact h1)))
      clear h1
      go_wp2
      go_meet
      exact ⟨by rw [HV.out]; rfl, rfl⟩
    · have d1 : ((wn : Int) == 0) = false := by simp [h1]
      by_cases h2 : 1 < wn
      · have d2 : decide ((1 : Int) < (wn : Int)) = true := decide_eq_true (by omega)
        obtain ⟨x, hx⟩ : ∃ x, a[0]? = some x := ⟨_, List.getElem?_eq_getElem (by have := HR.out.2.2; omega)⟩
        have hrx : r[0]? = some x := by
          have := (List.getElem?_eq_some_iff.1 hx).1
          rw [HR.out.2.1, List.getElem?_append_left this]; exact hx
        have hi : ∀ W, (Instr.index 9 (.string s) (.int .i64 at')).run Tryz.prog W = .ok (.int .u8 (x.toNat : Int)) W := fun W => by
          have := HGE.out 0 x hrx W
          simpa using this
        by_cases h3 : x = 48
        · have d3 : ((x.toNat : Int) == 48) = true := by subst h3; rfl
          have HV : Hid (wholeB a = false) := Lib.hid (HWB.out.2 (.inr ⟨by rw [HR.out.2.2]; exact h2, by rw [List.head?_eq_getElem?, hx, h3]⟩))
          clear hx hrx h3
          go_wp2
          go_meet
          exact ⟨by rw [HV.out]; rfl, rfl⟩
        · have d3 : ((x.toNat : Int) == 48) = false := by
            have : x.toNat ≠ 48 := fun h => h3 (UInt8.toNat_inj.1 h)
            simp; omega
          have HV : Hid (wholeB a = true) := Lib.hid (by
            cases hq : wholeB a with
            | true => rfl
            | false =>
              rcases HWB.out.1 hq with h | h
              · have := HR.out.2.2; omega
              · rw [List.head?_eq_getElem?, hx] at h
                exact absurd (Option.some.inj h.2) h3)
          clear hx hrx h3
          go_wp2
          go_meet
          exact ⟨by rw [HV.out]; rfl, rfl⟩
      · have d2 : decide ((1 : Int) < (wn : Int)) = false := decide_eq_false (by omega)
        have HV : Hid (wholeB a = true) := Lib.hid (by
          cases hq : wholeB a with
          | true => rfl
          | false =>
            have := HR.out.2.2
            rcases HWB.out.1 hq with h | h <;> omega)
        clear h1 h2
        go_wp2
        go_meet
        exact ⟨by rw [HV.out]; rfl, rfl⟩
  case rest =>
  obtain ⟨rfl, rfl⟩ := hcut
  obtain ⟨wb, hwb⟩ : ∃ x, wholeB a = x := ⟨_, rfl⟩
  rw [hwb]
  have HWB := Lib.hid hwb
  clear hwb
  cases wb with
  | false =>
    have HF := Lib.hid (HTX.out.bad1 HWB.out)
    go_wp2
    go_ret2
    exact ⟨rate_ans HF.out rfl rfl, rfl⟩
  | true =>
    have w1 : IntKind.i64.wrap ((at' : Int) + wn) = (at' : Int) + wn := IntWalk.i64_in _ (by omega)
    obtain ⟨dot, hdot⟩ : ∃ x, (t.head? == some 46) = x := ⟨_, rfl⟩
    have HDOT := Lib.hid hdot
    clear hdot
    go_upto_region 11 with fail
    go_cut [44] from 35 to 44 (fun q wx => q = .bool dot ∧ w = wx)
    case first =>
      cases t with
      | nil =>
        have hl : decide ((at' : Int) + wn < (s.size : Int)) = false := decide_eq_false (by have := HSZ.out; simp at this; omega)
        have HV : Hid (dot = false) := Lib.hid (by rw [← HDOT.out]; rfl)
        go_wp2
        go_meet
        exact ⟨by rw [HV.out], rfl⟩
      | cons c u =>
        have hl : decide ((at' : Int) + wn < (s.size : Int)) = true := decide_eq_true (by have := HSZ.out; simp at this; omega)
        have hrx : r[wn]? = some c := by rw [HR.out.2.1, ← HR.out.2.2]; simp
        have hi := HGE.out wn c hrx
        have hd : ((c.toNat : Int) == 46) = dot := by
          rw [← HDOT.out]
          by_cases h : c = 46
          · subst h; rfl
          · have h1 : c.toNat ≠ 46 := fun h2 => h (UInt8.toNat_inj.1 h2)
            have h2 : (some c == some (46 : UInt8)) = false := by simpa using h
            show _ = (some c == some (46 : UInt8))
            rw [h2]; simp; omega
        clear hrx
        go_wp2
        go_meet
        exact ⟨rfl, rfl⟩
    case rest =>
    obtain ⟨rfl, rfl⟩ := hcut
    cases dot with
    | true =>
      obtain ⟨u, hu⟩ : ∃ u, t = 46 :: u := by
        have := HDOT.out
        cases t with
        | nil => simp at this
        | cons c u =>
          have h : c = 46 := by simpa using this
          exact ⟨u, by rw [h]⟩
      subst hu
      obtain ⟨f, hf⟩ : ∃ f, u.takeWhile digC = f := ⟨_, rfl⟩
      obtain ⟨v, hv⟩ : ∃ v, u.dropWhile digC = v := ⟨_, rfl⟩
      have hufv : u = f ++ v := by rw [← hf, ← hv, List.takeWhile_append_dropWhile]
      have hvd : ∀ c x, v = c :: x → digC c = false := fun c x h => by
        have h1 : (u.dropWhile digC).head? = some c := by rw [hv, h]; rfl
        have := List.head?_dropWhile_not digC u
        rw [h1] at this
        simpa using this
      have hfd : f.all digC = true := by rw [← hf]; exact tw_all _
      obtain ⟨fn, hfn⟩ : ∃ n, f.length = n := ⟨_, rfl⟩
      have hszf : at' + wn + 1 + fn + v.length = s.size := by
        have := HSZ.out
        rw [List.length_cons, hufv, List.length_append, hfn] at this
        omega
      have hud : (ls s).drop (at' + wn + 1) = u := by
        have h1 : (ls s).drop at' = a ++ 46 :: u := by rw [HR.out.1]; exact HR.out.2.1
        have h2 : (ls s).drop (at' + wn + 1) = ((ls s).drop at').drop (wn + 1) := by rw [List.drop_drop]; congr 1
        rw [h2, h1, ← HR.out.2.2]
        simp
      have HDF : Hid (∀ W, Calls Tryz.prog 130 #[.string s, .int .i64 ((at' : Int) + wn + 1)] W fun e w' => e = .returned (.int .i64 fn) ∧ W = w') := Lib.hid fun W => by
        have h := r2_digits s (at' + wn + 1) W hs (by omega)
        rw [hud, hf, hfn] at h
        exact h
      have HGF : Hid (∀ (j : Nat) (c : UInt8), u[j]? = some c → r[wn + 1 + j]? = some c) := Lib.hid fun j c hc => by
        rw [HR.out.2.1, List.getElem?_append_right (by rw [HR.out.2.2]; omega), HR.out.2.2, show wn + 1 + j - wn = j + 1 by omega, List.getElem?_cons_succ]
        exact hc
      have w2 : IntKind.i64.wrap ((at' : Int) + wn + 1) = (at' : Int) + wn + 1 := IntWalk.i64_in _ (by omega)
      have w3 : IntKind.i64.wrap ((at' : Int) + wn + fn) = (at' : Int) + wn + fn := IntWalk.i64_in _ (by omega)
      have HUF := Lib.hid (And.intro hf (And.intro hufv (And.intro hfd hfn)))
      have HVD := Lib.hid hvd
      have HSF := Lib.hid hszf
      have hfl : fn ≤ 1000000 := by omega
      clear hf hv hufv hvd hfd hfn hszf hud
      go_wp2_with fail
      refine (HDF.out _).mono ?_
      rintro e w1 ⟨rfl, rfl⟩
      go_upto_region 13 with fail
      go_cut [62] from 49 to 62 (fun q wx => q = .bool (!partB f) ∧ w = wx)
      case first =>
        have HPB := Lib.hid (part_bad HUF.out.2.2.1)
        by_cases h1 : fn = 0
        · have d1 : ((fn : Int) == 0) = true := by simp [h1]
          have HV : Hid (partB f = false) := Lib.hid (HPB.out.2 (.inl (by rw [HUF.out.2.2.2]; exact h1)))
          clear h1
          go_wp2
          go_meet
          exact ⟨by rw [HV.out]; rfl, rfl⟩
        · have d1 : ((fn : Int) == 0) = false := by simp [h1]
          by_cases h2 : 4 < fn
          · have d2 : decide ((4 : Int) < (fn : Int)) = true := decide_eq_true (by omega)
            have HV : Hid (partB f = false) := Lib.hid (HPB.out.2 (.inr (.inl (by rw [HUF.out.2.2.2]; exact h2))))
            clear h1 h2
            go_wp2
            go_meet
            exact ⟨by rw [HV.out]; rfl, rfl⟩
          · have d2 : decide ((4 : Int) < (fn : Int)) = false := decide_eq_false (by omega)
            obtain ⟨z, hz⟩ : ∃ z, f[fn - 1]? = some z := ⟨_, List.getElem?_eq_getElem (by have := HUF.out.2.2.2; omega)⟩
            have huz : u[fn - 1]? = some z := by
              have := (List.getElem?_eq_some_iff.1 hz).1
              rw [HUF.out.2.1, List.getElem?_append_left this]; exact hz
            have hrx := HGF.out (fn - 1) z huz
            rw [show wn + 1 + (fn - 1) = wn + fn by omega] at hrx
            have hi : ∀ W, (Instr.index 9 (.string s) (.int .i64 ((at' : Int) + wn + fn))).run Tryz.prog W = .ok (.int .u8 (z.toNat : Int)) W := fun W => by
              have := HGE.out (wn + fn) z hrx W
              rw [Int.natCast_add, ← Int.add_assoc] at this
              exact this
            have hgl : f.getLast? = some z := last_at (by rw [HUF.out.2.2.2]; exact hz)
            by_cases h3 : z = 48
            · have d3 : ((z.toNat : Int) == 48) = true := by subst h3; rfl
              have HV : Hid (partB f = false) := Lib.hid (HPB.out.2 (.inr (.inr (by rw [hgl, h3]))))
              clear hz huz hrx h3 h1 h2 hgl
              go_wp2
              go_meet
              exact ⟨by rw [HV.out]; rfl, rfl⟩
            · have d3 : ((z.toNat : Int) == 48) = false := by
                have : z.toNat ≠ 48 := fun h => h3 (UInt8.toNat_inj.1 h)
                simp; omega
              have HV : Hid (partB f = true) := Lib.hid (by
                cases hq : partB f with
                | true => rfl
                | false =>
                  have := HUF.out.2.2.2
                  rcases HPB.out.1 hq with h | h | h
                  · omega
                  · omega
                  · rw [hgl] at h; exact absurd (Option.some.inj h) h3)
              clear hz huz hrx h3 h1 h2 hgl
              go_wp2
              go_meet
              exact ⟨by rw [HV.out]; rfl, rfl⟩
      case rest =>
      obtain ⟨rfl, rfl⟩ := hcut
      obtain ⟨pb, hpb⟩ : ∃ x, partB f = x := ⟨_, rfl⟩
      rw [hpb]
      have HPB := Lib.hid hpb
      clear hpb
      cases pb with
      | false =>
        have HF := Lib.hid (HTX.out.bad2 rfl (.inl (by rw [HUF.out.1]; exact HPB.out)))
        go_wp2
        go_ret2
        exact ⟨rate_ans HF.out rfl rfl, rfl⟩
      | true =>
        have w4 : IntKind.i64.wrap ((at' : Int) + wn + 1 + fn) = (at' : Int) + wn + 1 + fn := IntWalk.i64_in _ (by omega)
        have w5 : IntKind.i64.wrap ((s.size : Int) - 1) = (s.size : Int) - 1 := IntWalk.i64_in _ (by omega)
        have hf4 : fn ≤ 4 := by
          have h1 := HPB.out
          cases Nat.lt_or_ge 4 fn with
          | inl h => rw [(part_bad HUF.out.2.2.1).2 (.inr (.inl (by rw [HUF.out.2.2.2]; exact h)))] at h1; cases h1
          | inr h => exact h
        obtain ⟨fin, hfin⟩ : ∃ x, decide (v = [37]) = x := ⟨_, rfl⟩
        have HFI := Lib.hid hfin
        clear hfin
        go_upto_region 16 with fail
        go_cut [77] from 67 to 77 (fun q wx => q = .bool (!fin) ∧ w = wx)
        case first =>
          by_cases h1 : v.length = 1
          · obtain ⟨c, hc⟩ : ∃ c, v = [c] := List.length_eq_one_iff.1 h1
            have d1 : (((at' : Int) + wn + 1 + fn : Int) != (s.size : Int) - 1) = false := by
              have := HSF.out
              simp; omega
            have hrx : r[wn + 1 + fn]? = some c := HGF.out fn c (by rw [HUF.out.2.1, ← HUF.out.2.2.2, hc]; simp)
            have hi : ∀ W, (Instr.index 9 (.string s) (.int .i64 ((at' : Int) + wn + 1 + fn))).run Tryz.prog W = .ok (.int .u8 (c.toNat : Int)) W := fun W => by
              have := HGE.out (wn + 1 + fn) c hrx W
              simpa [Int.natCast_add, Int.add_assoc] using this
            have dc : ((c.toNat : Int) != 37) = !fin := by
              rw [← HFI.out, hc]
              by_cases h : c = 37
              · subst h; rfl
              · have h1 : c.toNat ≠ 37 := fun h2 => h (UInt8.toNat_inj.1 h2)
                have h2 : decide ([c] = [(37 : UInt8)]) = false := decide_eq_false (fun h3 => h (List.cons.inj h3).1)
                rw [h2]; simp; omega
            clear hc h1 hrx
            go_wp2
            go_meet
            exact ⟨rfl, rfl⟩
          · have d1 : (((at' : Int) + wn + 1 + fn : Int) != (s.size : Int) - 1) = true := by
              have := HSF.out
              simp; omega
            have HV : Hid (fin = false) := Lib.hid (by rw [← HFI.out]; exact decide_eq_false (fun h => h1 (by rw [h]; rfl)))
            clear h1
            go_wp2
            go_meet
            exact ⟨by rw [HV.out]; rfl, rfl⟩
        case rest =>
        obtain ⟨rfl, rfl⟩ := hcut
        cases fin with
        | false =>
          have HF : Hid (rateE (ls s) = (0, 3)) := Lib.hid (HTX.out.bad2 rfl (.inr (fun h => by have h2 := HFI.out; rw [HUF.out.1, HUF.out.2.1] at h; have h3 := List.append_cancel_left h; rw [decide_eq_false_iff_not] at h2; exact h2 h3)))
          go_wp2
          go_ret2
          exact ⟨rate_ans HF.out rfl rfl, rfl⟩
        | true =>
          have HANS : Hid (∀ n, SatV a n → ansV (ls s) at' (n * 10000 + fracV f fn)) := Lib.hid (fun n hn => by have h := ans1 HTX.out HWB.out (f := f) (by have h2 := of_decide_eq_true HFI.out; rw [HUF.out.2.1, h2]) HPB.out HAT.out hn (by rw [HUF.out.2.2.2]; exact hf4) HUF.out.2.2.1; rw [HUF.out.2.2.2] at h; exact h)
          have HAI : Hid (∀ (k : Nat) (c : UInt8), a[k]? = some c → ∀ W, (Instr.index 9 (.string s) (.int .i64 ((at' : Int) + k))).run Tryz.prog W = .ok (.int .u8 (c.toNat : Int)) W) := Lib.hid fun k c hc => HGE.out k c (by
            have := (List.getElem?_eq_some_iff.1 hc).1
            rw [HR.out.2.1, List.getElem?_append_left this]; exact hc)
          have HFR : Hid (∀ (j : Nat) (c : UInt8), (f : List UInt8)[j]? = some c → ∀ W, (Instr.index 9 (.string s) (.int .i64 ((at' : Int) + wn + 1 + j))).run Tryz.prog W = .ok (.int .u8 (c.toNat : Int)) W) := Lib.hid fun j c hc W => by have h := HGE.out (wn + 1 + j) c (HGF.out j c (by have := (List.getElem?_eq_some_iff.1 hc).1; rw [HUF.out.2.1, List.getElem?_append_left this]; exact hc)) W; simpa [Int.natCast_add, Int.add_assoc] using h
          have HFD : Hid ((f : List UInt8).all digC = true ∧ (f : List UInt8).length = fn) := Lib.hid ⟨HUF.out.2.2.1, HUF.out.2.2.2⟩
          have HAD := Lib.hid HTX.out.digs
          have hf5 : fn ≤ 4 := by omega
          go_wp2
          go_loop [8, 9] (fun nv iv => ∃ k n : Nat, k ≤ wn ∧ iv = .int .i64 ((at' : Int) + k) ∧ nv = .int .u64 n ∧ n < 10000000 ∧ Hid (SatV (a.take k) n)) (fun _ iv => at' + wn - (intOf iv).toNat)
          case atStart => exact ⟨0, 0, Nat.zero_le _, by simp, rfl, by omega, Lib.hid satV_nil⟩
          case round =>
            obtain ⟨k, n, hk, rfl, rfl, hn7, HS⟩ := hrel
            have v1 : IntKind.i64.wrap ((at' : Int) + wn) = (at' : Int) + wn := IntWalk.i64_in _ (by omega)
            have v2 : IntKind.i64.wrap ((at' : Int) + k + 1) = (at' : Int) + k + 1 := IntWalk.i64_in _ (by omega)
            by_cases hlt : k < wn
            · have d1 : decide ((at' : Int) + k < (at' : Int) + wn) = true := decide_eq_true (by omega)
              obtain ⟨c, hc⟩ : ∃ c, a[k]? = some c := ⟨_, List.getElem?_eq_getElem (by have := HR.out.2.2; omega)⟩
              have hi := HAI.out k c hc
              by_cases hn6 : n < 1000000
              · have d2 : decide ((n : Int) < 1000000) = true := decide_eq_true (by omega)
                obtain ⟨hs1, hs2, hs3⟩ := satV_low hc (List.all_eq_true.1 HAD.out c (List.mem_of_getElem? hc)) HS.out hn6
                have HS2 := Lib.hid hs1
                have u1 : IntKind.u64.wrap (10 * (n : Int)) = 10 * (n : Int) := by rw [IntKind.wrap_u64]; omega
                have u2 : IntKind.u64.wrap (10 * (n : Int) + (c.toNat : Int)) = 10 * (n : Int) + (c.toNat : Int) := by rw [IntKind.wrap_u64]; omega
                have u3 : IntKind.u64.wrap (10 * (n : Int) + (c.toNat : Int) - 48) = 10 * (n : Int) + (c.toNat : Int) - 48 := by rw [IntKind.wrap_u64]; omega
                have u4 : IntKind.u64.wrap (c.toNat : Int) = (c.toNat : Int) := by rw [IntKind.wrap_u64]; omega
                clear hs1 hc
                go_wp2
                go_round
                case rel => exact ⟨k + 1, 10 * n + (c.toNat - 48), by omega, by go_num, u64_eq (by omega), by omega, HS2⟩
                case measure => simp [intOf]; omega
              · have d2 : decide ((n : Int) < 1000000) = false := decide_eq_false (by omega)
                have HS2 := Lib.hid (satV_high hc HS.out hn6)
                clear hc
                go_wp2
                go_round
                case rel => exact ⟨k + 1, n, by omega, by go_num, rfl, hn7, HS2⟩
                case measure => simp [intOf]; omega
            · obtain rfl : k = wn := by omega
              have HSA : Hid (SatV a n) := Lib.hid (by have := HS.out; rwa [List.take_of_length_le (by rw [HR.out.2.2]; exact Nat.le_refl _)] at this)
              have u5 : IntKind.u64.wrap (10000 * (n : Int)) = 10000 * (n : Int) := by rw [IntKind.wrap_u64]; omega
              have v3 : IntKind.i64.wrap ((at' : Int) + k + 1) = (at' : Int) + k + 1 := IntWalk.i64_in _ (by omega)
              have d1 : decide ((at' : Int) + k < (at' : Int) + k) = false := decide_eq_false (by omega)
              clear hlt
              go_wp2
              go_loop [8, 10, 11] (fun nv sv iv => ∃ j N : Nat, j ≤ fn ∧ iv = .int .i64 ((at' : Int) + k + 1 + j) ∧ sv = .int .u64 (p10 (j + 1)) ∧ nv = .int .u64 N ∧ N < 100000010000 ∧ Hid (N = n * 10000 + fracV f j)) (fun _ _ iv => at' + k + 1 + fn - (intOf iv).toNat)
              case atStart => exact ⟨0, n * 10000, Nat.zero_le _, by simp, by simp [p10], u64_eq (by omega), by omega, Lib.hid (by rw [fracV_zero, Nat.add_zero])⟩
              case round =>
                obtain ⟨j, N, hj, rfl, rfl, rfl, hN, HN⟩ := hrel
                have v4 : IntKind.i64.wrap ((at' : Int) + k + 1 + fn) = (at' : Int) + k + 1 + fn := IntWalk.i64_in _ (by omega)
                have v5 : IntKind.i64.wrap ((at' : Int) + k + 1 + j + 1) = (at' : Int) + k + 1 + j + 1 := IntWalk.i64_in _ (by omega)
                by_cases hltj : j < fn
                · have d3 : decide ((at' : Int) + k + 1 + j < (at' : Int) + k + 1 + fn) = true := decide_eq_true (by omega)
                  obtain ⟨c, hc⟩ : ∃ c, (f : List UInt8)[j]? = some c := ⟨_, List.getElem?_eq_getElem (by have := HFD.out.2; omega)⟩
                  have hi := HFR.out j c hc
                  have hcd : digC c = true := List.all_eq_true.1 HFD.out.1 c (List.mem_of_getElem? hc)
                  have hc2 : 48 ≤ c.toNat ∧ c.toNat ≤ 57 := by unfold digC at hcd; simpa using hcd
                  obtain ⟨hc3, hc4⟩ := hc2
                  have hst := fracV_step hc (by omega)
                  have hfl := fracV_lt HFD.out.1 (j := j + 1) (by omega)
                  have hp := p10_le (j + 1)
                  have hdv := p10_div (j := j) (by omega)
                  obtain ⟨P, hP⟩ : ∃ P, p10 (j + 1) = P := ⟨_, rfl⟩
                  rw [hP] at hst hp hdv ⊢
                  obtain ⟨D, hD⟩ : ∃ D, c.toNat - 48 = D := ⟨_, rfl⟩
                  have hD9 : D ≤ 9 := by omega
                  obtain ⟨M, hM⟩ : ∃ M, P * D = M := ⟨_, rfl⟩
                  have hM2 : M ≤ 90000 := by rw [← hM]; exact Nat.le_trans (Nat.mul_le_mul hp hD9) (by omega)
                  have hMI : (P : Int) * ((c.toNat : Int) - 48) = (M : Int) := by
                    rw [show (c.toNat : Int) - 48 = (D : Int) by omega, ← hM]; simp
                  rw [hD, hM] at hst
                  have u1 : IntKind.u64.wrap ((c.toNat : Int) - 48) = (c.toNat : Int) - 48 := by rw [IntKind.wrap_u64]; omega
                  have u2 : IntKind.u64.wrap ((P : Int) * ((c.toNat : Int) - 48)) = (M : Int) := by rw [hMI, IntKind.wrap_u64]; omega
                  have u3 : IntKind.u64.wrap ((N : Int) + M) = (N : Int) + M := by rw [IntKind.wrap_u64]; omega
                  have u4 : IntKind.u64.wrap (c.toNat : Int) = (c.toNat : Int) := by rw [IntKind.wrap_u64]; omega
                  have u8 : IntKind.u64.wrap ((P : Int) / 10) = (P : Int) / 10 := by rw [IntKind.wrap_u64]; omega
                  have HN2 : Hid (N + M = n * 10000 + fracV f (j + 1)) := Lib.hid (by rw [hst, HN.out]; omega)
                  have HB2 : Hid (N + M < 100000010000) := Lib.hid (by rw [HN2.out]; omega)
                  have HDV := Lib.hid (And.intro hP hdv)
                  clear hc hst hfl hp hdv hP hM hMI hcd hD hD9
                  go_wp2
                  go_round
                  case rel => exact ⟨j + 1, N + M, by omega, by go_num, u64_eq (by rw [show j + 1 + 1 = j + 2 by omega, ← HDV.out.2]; simp), by go_num, HB2.out, HN2⟩
                  case measure => simp [intOf]; omega
                · have d3 : decide ((at' : Int) + k + 1 + j < (at' : Int) + k + 1 + fn) = false := decide_eq_false (by omega)
                  have HAN : Hid (ansV (ls s) at' N) := Lib.hid (by
                    have h := HANS.out n HSA.out
                    rw [HN.out, show j = fn by omega]; exact h)
                  have hsm : N < 18446744073709551616 := by omega
                  by_cases hz : N = 0
                  · have d4 : ((N : Int) == 0) = true := by simp [hz]
                    by_cases ha1 : at' = 1
                    · have d5 : ((at' : Int) == 1) = true := by simp [ha1]
                      have HF : Hid (rateE (ls s) = (0, 3)) := Lib.hid (by have := HAN.out; unfold ansV at this; rw [this, if_pos ⟨hz, ha1⟩])
                      clear hz ha1
                      go_wp2
                      go_ret2
                      exact ⟨rate_ans HF.out rfl rfl, rfl⟩
                    · have d5 : ((at' : Int) == 1) = false := by simp; omega
                      have HF : Hid (rateE (ls s) = ((N : Int), 0)) := Lib.hid (by have := HAN.out; unfold ansV at this; rw [this, if_neg (fun h => ha1 h.2), if_neg (by omega), if_neg ha1])
                      have d6 : decide ((1000000000 : Int) < (N : Int)) = false := decide_eq_false (by omega)
                      have u6 : IntKind.i64.wrap (N : Int) = (N : Int) := IntWalk.i64_in _ (by omega)
                      clear hz ha1
                      go_wp2
                      go_ret2
                      exact ⟨rate_ans HF.out rfl rfl, rfl⟩
                  · have d4 : ((N : Int) == 0) = false := by simp [hz]
                    by_cases hbig : 1000000000 < N
                    · have d6 : decide ((1000000000 : Int) < (N : Int)) = true := decide_eq_true (by omega)
                      have HF : Hid (rateE (ls s) = (0, 2)) := Lib.hid (by have := HAN.out; unfold ansV at this; rw [this, if_neg (fun h => hz h.1), if_pos hbig])
                      clear hz
                      go_wp2
                      go_ret2
                      exact ⟨rate_ans HF.out rfl rfl, rfl⟩
                    · have d6 : decide ((1000000000 : Int) < (N : Int)) = false := decide_eq_false (by omega)
                      have u6 : IntKind.i64.wrap (N : Int) = (N : Int) := IntWalk.i64_in _ (by omega)
                      have u7 : IntKind.i64.wrap (-(N : Int)) = -(N : Int) := IntWalk.i64_in _ (by omega)
                      by_cases ha1 : at' = 1
                      · have d5 : ((at' : Int) == 1) = true := by simp [ha1]
                        have HF : Hid (rateE (ls s) = (-(N : Int), 0)) := Lib.hid (by have := HAN.out; unfold ansV at this; rw [this, if_neg (fun h => hz h.1), if_neg hbig, if_pos ha1])
                        clear hz ha1
                        go_wp2
                        go_ret2
                        exact ⟨rate_ans HF.out rfl rfl, rfl⟩
                      · have d5 : ((at' : Int) == 1) = false := by simp; omega
                        have HF : Hid (rateE (ls s) = ((N : Int), 0)) := Lib.hid (by have := HAN.out; unfold ansV at this; rw [this, if_neg (fun h => hz h.1), if_neg hbig, if_neg ha1])
                        clear hz ha1
                        go_wp2
                        go_ret2
                        exact ⟨rate_ans HF.out rfl rfl, rfl⟩
    | false =>
      have w5 : IntKind.i64.wrap ((s.size : Int) - 1) = (s.size : Int) - 1 := IntWalk.i64_in _ (by omega)
      obtain ⟨fin, hfin⟩ : ∃ x, decide (t = [37]) = x := ⟨_, rfl⟩
      have HFI := Lib.hid hfin
      clear hfin
      go_upto_region 16 with fail
      go_cut [77] from 67 to 77 (fun q wx => q = .bool (!fin) ∧ w = wx)
      case first =>
        by_cases h1 : t.length = 1
        · obtain ⟨c, hc⟩ : ∃ c, t = [c] := List.length_eq_one_iff.1 h1
          have d1 : (((at' : Int) + wn : Int) != (s.size : Int) - 1) = false := by
            have := HSZ.out
            simp; omega
          have hrx : r[wn]? = some c := by rw [HR.out.2.1, ← HR.out.2.2, hc]; simp
          have hi : ∀ W, (Instr.index 9 (.string s) (.int .i64 ((at' : Int) + wn))).run Tryz.prog W = .ok (.int .u8 (c.toNat : Int)) W := fun W => by
            have := HGE.out (wn) c hrx W
            simpa [Int.natCast_add, Int.add_assoc] using this
          have dc : ((c.toNat : Int) != 37) = !fin := by
            rw [← HFI.out, hc]
            by_cases h : c = 37
            · subst h; rfl
            · have h1 : c.toNat ≠ 37 := fun h2 => h (UInt8.toNat_inj.1 h2)
              have h2 : decide ([c] = [(37 : UInt8)]) = false := decide_eq_false (fun h3 => h (List.cons.inj h3).1)
              rw [h2]; simp; omega
          clear hc h1 hrx
          go_wp2
          go_meet
          exact ⟨rfl, rfl⟩
        · have d1 : (((at' : Int) + wn : Int) != (s.size : Int) - 1) = true := by
            have := HSZ.out
            simp; omega
          have HV : Hid (fin = false) := Lib.hid (by rw [← HFI.out]; exact decide_eq_false (fun h => h1 (by rw [h]; rfl)))
          clear h1
          go_wp2
          go_meet
          exact ⟨by rw [HV.out]; rfl, rfl⟩
      case rest =>
      obtain ⟨rfl, rfl⟩ := hcut
      cases fin with
      | false =>
        have HF : Hid (rateE (ls s) = (0, 3)) := Lib.hid (HTX.out.bad3 (fun u h => by have := HDOT.out; rw [h] at this; simp at this) (of_decide_eq_false HFI.out))
        go_wp2
        go_ret2
        exact ⟨rate_ans HF.out rfl rfl, rfl⟩
      | true =>
        have HANS : Hid (∀ n, SatV a n → ansV (ls s) at' (n * 10000 + fracV [] 0)) := Lib.hid (fun n hn => ans2 HTX.out HWB.out (of_decide_eq_true HFI.out) HAT.out hn)
        have HAI : Hid (∀ (k : Nat) (c : UInt8), a[k]? = some c → ∀ W, (Instr.index 9 (.string s) (.int .i64 ((at' : Int) + k))).run Tryz.prog W = .ok (.int .u8 (c.toNat : Int)) W) := Lib.hid fun k c hc => HGE.out k c (by
          have := (List.getElem?_eq_some_iff.1 hc).1
          rw [HR.out.2.1, List.getElem?_append_left this]; exact hc)
        have HFR : Hid (∀ (j : Nat) (c : UInt8), ([] : List UInt8)[j]? = some c → ∀ W, (Instr.index 9 (.string s) (.int .i64 ((at' : Int) + wn + 1 + j))).run Tryz.prog W = .ok (.int .u8 (c.toNat : Int)) W) := Lib.hid fun j c hc W => by simp at hc
        have HFD : Hid (([] : List UInt8).all digC = true ∧ ([] : List UInt8).length = 0) := Lib.hid ⟨rfl, rfl⟩
        have HAD := Lib.hid HTX.out.digs
        have hf5 : 0 ≤ 4 := by omega
        go_wp2
        go_loop [8, 9] (fun nv iv => ∃ k n : Nat, k ≤ wn ∧ iv = .int .i64 ((at' : Int) + k) ∧ nv = .int .u64 n ∧ n < 10000000 ∧ Hid (SatV (a.take k) n)) (fun _ iv => at' + wn - (intOf iv).toNat)
        case atStart => exact ⟨0, 0, Nat.zero_le _, by simp, rfl, by omega, Lib.hid satV_nil⟩
        case round =>
          obtain ⟨k, n, hk, rfl, rfl, hn7, HS⟩ := hrel
          have v1 : IntKind.i64.wrap ((at' : Int) + wn) = (at' : Int) + wn := IntWalk.i64_in _ (by omega)
          have v2 : IntKind.i64.wrap ((at' : Int) + k + 1) = (at' : Int) + k + 1 := IntWalk.i64_in _ (by omega)
          by_cases hlt : k < wn
          · have d1 : decide ((at' : Int) + k < (at' : Int) + wn) = true := decide_eq_true (by omega)
            obtain ⟨c, hc⟩ : ∃ c, a[k]? = some c := ⟨_, List.getElem?_eq_getElem (by have := HR.out.2.2; omega)⟩
            have hi := HAI.out k c hc
            by_cases hn6 : n < 1000000
            · have d2 : decide ((n : Int) < 1000000) = true := decide_eq_true (by omega)
              obtain ⟨hs1, hs2, hs3⟩ := satV_low hc (List.all_eq_true.1 HAD.out c (List.mem_of_getElem? hc)) HS.out hn6
              have HS2 := Lib.hid hs1
              have u1 : IntKind.u64.wrap (10 * (n : Int)) = 10 * (n : Int) := by rw [IntKind.wrap_u64]; omega
              have u2 : IntKind.u64.wrap (10 * (n : Int) + (c.toNat : Int)) = 10 * (n : Int) + (c.toNat : Int) := by rw [IntKind.wrap_u64]; omega
              have u3 : IntKind.u64.wrap (10 * (n : Int) + (c.toNat : Int) - 48) = 10 * (n : Int) + (c.toNat : Int) - 48 := by rw [IntKind.wrap_u64]; omega
              have u4 : IntKind.u64.wrap (c.toNat : Int) = (c.toNat : Int) := by rw [IntKind.wrap_u64]; omega
              clear hs1 hc
              go_wp2
              go_round
              case rel => exact ⟨k + 1, 10 * n + (c.toNat - 48), by omega, by go_num, u64_eq (by omega), by omega, HS2⟩
              case measure => simp [intOf]; omega
            · have d2 : decide ((n : Int) < 1000000) = false := decide_eq_false (by omega)
              have HS2 := Lib.hid (satV_high hc HS.out hn6)
              clear hc
              go_wp2
              go_round
              case rel => exact ⟨k + 1, n, by omega, by go_num, rfl, hn7, HS2⟩
              case measure => simp [intOf]; omega
          · obtain rfl : k = wn := by omega
            have HSA : Hid (SatV a n) := Lib.hid (by have := HS.out; rwa [List.take_of_length_le (by rw [HR.out.2.2]; exact Nat.le_refl _)] at this)
            have u5 : IntKind.u64.wrap (10000 * (n : Int)) = 10000 * (n : Int) := by rw [IntKind.wrap_u64]; omega
            have v3 : IntKind.i64.wrap ((at' : Int) + k + 1) = (at' : Int) + k + 1 := IntWalk.i64_in _ (by omega)
            have d1 : decide ((at' : Int) + k < (at' : Int) + k) = false := decide_eq_false (by omega)
            clear hlt
            go_wp2
            go_loop [8, 10, 11] (fun nv sv iv => ∃ j N : Nat, j ≤ 0 ∧ iv = .int .i64 ((at' : Int) + k + 1 + j) ∧ sv = .int .u64 (p10 (j + 1)) ∧ nv = .int .u64 N ∧ N < 100000010000 ∧ Hid (N = n * 10000 + fracV [] j)) (fun _ _ iv => at' + k + 1 + 0 - (intOf iv).toNat)
            case atStart => exact ⟨0, n * 10000, Nat.zero_le _, by simp, by simp [p10], u64_eq (by omega), by omega, Lib.hid (by rw [fracV_zero, Nat.add_zero])⟩
            case round =>
              obtain ⟨j, N, hj, rfl, rfl, rfl, hN, HN⟩ := hrel
              have v4 : IntKind.i64.wrap ((at' : Int) + k + 1 + 0) = (at' : Int) + k + 1 + 0 := IntWalk.i64_in _ (by omega)
              have v5 : IntKind.i64.wrap ((at' : Int) + k + 1 + j + 1) = (at' : Int) + k + 1 + j + 1 := IntWalk.i64_in _ (by omega)
              by_cases hltj : j < 0
              · have d3 : decide ((at' : Int) + k + 1 + j < (at' : Int) + k + 1 + 0) = true := decide_eq_true (by omega)
                obtain ⟨c, hc⟩ : ∃ c, ([] : List UInt8)[j]? = some c := ⟨_, List.getElem?_eq_getElem (by have := HFD.out.2; omega)⟩
                have hi := HFR.out j c hc
                have hcd : digC c = true := List.all_eq_true.1 HFD.out.1 c (List.mem_of_getElem? hc)
                have hc2 : 48 ≤ c.toNat ∧ c.toNat ≤ 57 := by unfold digC at hcd; simpa using hcd
                obtain ⟨hc3, hc4⟩ := hc2
                have hst := fracV_step hc (by omega)
                have hfl := fracV_lt HFD.out.1 (j := j + 1) (by omega)
                have hp := p10_le (j + 1)
                have hdv := p10_div (j := j) (by omega)
                obtain ⟨P, hP⟩ : ∃ P, p10 (j + 1) = P := ⟨_, rfl⟩
                rw [hP] at hst hp hdv ⊢
                obtain ⟨D, hD⟩ : ∃ D, c.toNat - 48 = D := ⟨_, rfl⟩
                have hD9 : D ≤ 9 := by omega
                obtain ⟨M, hM⟩ : ∃ M, P * D = M := ⟨_, rfl⟩
                have hM2 : M ≤ 90000 := by rw [← hM]; exact Nat.le_trans (Nat.mul_le_mul hp hD9) (by omega)
                have hMI : (P : Int) * ((c.toNat : Int) - 48) = (M : Int) := by
                  rw [show (c.toNat : Int) - 48 = (D : Int) by omega, ← hM]; simp
                rw [hD, hM] at hst
                have u1 : IntKind.u64.wrap ((c.toNat : Int) - 48) = (c.toNat : Int) - 48 := by rw [IntKind.wrap_u64]; omega
                have u2 : IntKind.u64.wrap ((P : Int) * ((c.toNat : Int) - 48)) = (M : Int) := by rw [hMI, IntKind.wrap_u64]; omega
                have u3 : IntKind.u64.wrap ((N : Int) + M) = (N : Int) + M := by rw [IntKind.wrap_u64]; omega
                have u4 : IntKind.u64.wrap (c.toNat : Int) = (c.toNat : Int) := by rw [IntKind.wrap_u64]; omega
                have u8 : IntKind.u64.wrap ((P : Int) / 10) = (P : Int) / 10 := by rw [IntKind.wrap_u64]; omega
                have HN2 : Hid (N + M = n * 10000 + fracV [] (j + 1)) := Lib.hid (by rw [hst, HN.out]; omega)
                have HB2 : Hid (N + M < 100000010000) := Lib.hid (by rw [HN2.out]; omega)
                have HDV := Lib.hid (And.intro hP hdv)
                clear hc hst hfl hp hdv hP hM hMI hcd hD hD9
                go_wp2
                /- go_round
                case rel => exact ⟨j + 1, N + M, by omega, by go_num, u64_eq (by rw [show j + 1 + 1 = j + 2 by omega, ← HDV.out.2]; simp), by go_num, HB2.out, HN2⟩
                case measure => simp [intOf]; omega -/
              · have d3 : decide ((at' : Int) + k + 1 + j < (at' : Int) + k + 1 + 0) = false := decide_eq_false (by omega)
                have HAN : Hid (ansV (ls s) at' N) := Lib.hid (by
                  have h := HANS.out n HSA.out
                  rw [HN.out, show j = 0 by omega]; exact h)
                have hsm : N < 18446744073709551616 := by omega
                by_cases hz : N = 0
                · have d4 : ((N : Int) == 0) = true := by simp [hz]
                  by_cases ha1 : at' = 1
                  · have d5 : ((at' : Int) == 1) = true := by simp [ha1]
                    have HF : Hid (rateE (ls s) = (0, 3)) := Lib.hid (by have := HAN.out; unfold ansV at this; rw [this, if_pos ⟨hz, ha1⟩])
                    clear hz ha1
                    go_wp2
                    go_ret2
                    exact ⟨rate_ans HF.out rfl rfl, rfl⟩
                  · have d5 : ((at' : Int) == 1) = false := by simp; omega
                    have HF : Hid (rateE (ls s) = ((N : Int), 0)) := Lib.hid (by have := HAN.out; unfold ansV at this; rw [this, if_neg (fun h => ha1 h.2), if_neg (by omega), if_neg ha1])
                    have d6 : decide ((1000000000 : Int) < (N : Int)) = false := decide_eq_false (by omega)
                    have u6 : IntKind.i64.wrap (N : Int) = (N : Int) := IntWalk.i64_in _ (by omega)
                    clear hz ha1
                    go_wp2
                    go_ret2
                    exact ⟨rate_ans HF.out rfl rfl, rfl⟩
                · have d4 : ((N : Int) == 0) = false := by simp [hz]
                  by_cases hbig : 1000000000 < N
                  · have d6 : decide ((1000000000 : Int) < (N : Int)) = true := decide_eq_true (by omega)
                    have HF : Hid (rateE (ls s) = (0, 2)) := Lib.hid (by have := HAN.out; unfold ansV at this; rw [this, if_neg (fun h => hz h.1), if_pos hbig])
                    clear hz
                    go_wp2
                    go_ret2
                    exact ⟨rate_ans HF.out rfl rfl, rfl⟩
                  · have d6 : decide ((1000000000 : Int) < (N : Int)) = false := decide_eq_false (by omega)
                    have u6 : IntKind.i64.wrap (N : Int) = (N : Int) := IntWalk.i64_in _ (by omega)
                    have u7 : IntKind.i64.wrap (-(N : Int)) = -(N : Int) := IntWalk.i64_in _ (by omega)
                    by_cases ha1 : at' = 1
                    · have d5 : ((at' : Int) == 1) = true := by simp [ha1]
                      have HF : Hid (rateE (ls s) = (-(N : Int), 0)) := Lib.hid (by have := HAN.out; unfold ansV at this; rw [this, if_neg (fun h => hz h.1), if_neg hbig, if_pos ha1])
                      clear hz ha1
                      go_wp2
                      go_ret2
                      exact ⟨rate_ans HF.out rfl rfl, rfl⟩
                    · have d5 : ((at' : Int) == 1) = false := by simp; omega
                      have HF : Hid (rateE (ls s) = ((N : Int), 0)) := Lib.hid (by have := HAN.out; unfold ansV at this; rw [this, if_neg (fun h => hz h.1), if_neg hbig, if_neg ha1])
                      clear hz ha1
                      go_wp2
                      go_ret2
                      exact ⟨rate_ans HF.out rfl rfl, rfl⟩
end Go.Proofs.YtdpejolpjhlibaaGreatDoor
