import Derived.Test.YtlgoaohklggcdaaGreatDoorAbp
/- AbsentTells, without the program: the stretches are the document's days put together. -/
namespace Go.Proofs.YtlgoaohklggcdaaGreatDoor
open Go.RowKit Go.Sort

/-- A known fact, as the document has it. -/
def toAb (x : Kn) : Ab := ⟨x.2.fr, x.2.to, kiN x.2.co, x.2.nu, x.1⟩
theorem taken_no {T : List Fa} (h : ∀ f ∈ T, f.ki ≠ 18) (n : Int) : takenB T n = false := by
  unfold takenB
  rw [List.any_eq_false]
  intro f hf
  simp [h f hf]
theorem toMs_kA {T : List Fa} {pe : Int} (h : ∀ f ∈ T, f.ki ≠ 18) : toMs pe T = (kA T pe).map toAb := by
  unfold toMs kA chosen
  rw [List.map_filterMap]
  refine fm_congr _ fun i _ => ?_
  cases hx : T[i]? with
  | none => rfl
  | some f =>
    simp only [taken_no h, Bool.false_eq_true, if_false]
    unfold toOne ofPK
    by_cases h7 : f.ki = 7 ∧ f.pe = pe
    · have h8 : f.pe = pe ∧ f.ki = 7 := ⟨h7.2, h7.1⟩
      simp [h7, toAb]
    · have h8 : ¬ (f.pe = pe ∧ f.ki = 7) := fun e => h7 ⟨e.2, e.1⟩
      simp [h7, h8]
theorem nn_at (X : List Kn) (j : Int) : nnAt (X.map toAb) j = nAt X j := by
  unfold nnAt nAt
  rw [List.getElem?_map]
  cases X[j.toNat]? <;> rfl
theorem pT_in (x : Kn) (d : Int) : pT (toAb x) d = inB x.2 d := by
  unfold pT inB toAb
  rfl
theorem atM_plc (X : List Kn) (d : Int) : ∀ k, atM (X.map toAb) d k = plc X d k
  | 0 => rfl
  | k + 1 => by
    have ih := atM_plc X d k
    cases hx : X[k]? with
    | none =>
      rw [atM, plc, List.getElem?_map, hx]
      exact ih
    | some x =>
      rw [atM_succ (x := toAb x) (by rw [List.getElem?_map, hx]; rfl), plc_succ hx, ih, nn_at, pT_in]
      rfl

/-- The days from b on, n of them, behind a state. -/
def rfG (M : List Ab) (s : List Ab × Int) (b : Int) : Nat → List Ab × Int
  | 0 => s
  | n + 1 => rfS M (rfG M s b n) (b + n) (atM M (b + n) M.length)
theorem rfN_G (M : List Ab) (F : Int) : ∀ n, rfN M F n = rfG M ([], -1) F n
  | 0 => rfl
  | n + 1 => by rw [rfN, rfG, rfN_G M F n]
theorem rfG_add (M : List Ab) (s : List Ab × Int) (b : Int) (m : Nat) : ∀ n, rfG M s b (m + n) = rfG M (rfG M s b m) (b + m) n
  | 0 => rfl
  | n + 1 => by
    rw [← Nat.add_assoc, rfG, rfG, rfG_add M s b m n, show b + ((m + n : Nat) : Int) = b + (m : Int) + (n : Int) by omega]
theorem rfG_low {M : List Ab} {s : List Ab × Int} {b j : Int} (hj : ¬ 0 ≤ j) : ∀ n, (∀ i : Nat, i < n + 1 → atM M (b + i) M.length = j) → rfG M s b (n + 1) = (s.1, j)
  | 0, h => by
    rw [rfG, rfG, h 0 (by omega)]
    unfold rfS
    rw [if_neg hj]
  | n + 1, h => by
    rw [rfG, rfG_low hj n (fun i hi => h i (by omega)), h (n + 1) (by omega)]
    unfold rfS
    rw [if_neg hj]
theorem rfG_one {M : List Ab} {s : List Ab × Int} {b j : Int} (hj : 0 ≤ j) (hs : j ≠ s.2) : ∀ n, (∀ i : Nat, i < n + 1 → atM M (b + i) M.length = j) → rfG M s b (n + 1) = (s.1 ++ [⟨b, b + (n + 1 : Nat), (mAt M j).ki, (mAt M j).pa, (mAt M j).nn⟩], j)
  | 0, h => by
    rw [rfG, rfG, h 0 (by omega)]
    unfold rfS
    rw [if_pos hj, if_neg hs]
    simp
  | n + 1, h => by
    rw [rfG, rfG_one hj hs n (fun i hi => h i (by omega)), h (n + 1) (by omega)]
    unfold rfS
    rw [if_pos hj, if_pos rfl]
    simp only [setTo_snoc]
    rw [show b + ((n + 1 : Nat) : Int) + 1 = b + ((n + 1 + 1 : Nat) : Int) by omega]

/-- Stretches that touch, each with what stands on its days, unlike the one ahead of it. -/
inductive TiU (q : Int → Int) : Int → Int → List (Int × Int × Int) → Int → Prop
  | nil (F la : Int) : TiU q F la [] F
  | cons {F la b e j : Int} {P : List (Int × Int × Int)} : F < b → (∀ d, F ≤ d → d < b → q d = j) → (0 ≤ j → j ≠ la) → TiU q b j P e → TiU q F la ((F, b, j) :: P) e
/-- What stands on the last stretch. -/
def lastJ (la : Int) : List (Int × Int × Int) → Int
  | [] => la
  | p :: P => lastJ p.2.2 P
theorem lastJ_snoc (la : Int) (p : Int × Int × Int) : ∀ P, lastJ la (P ++ [p]) = p.2.2
  | [] => rfl
  | q :: P => lastJ_snoc q.2.2 p P
theorem TiU.snoc {q : Int → Int} {F la e b j : Int} {P : List (Int × Int × Int)} (h : TiU q F la P e) (h1 : e < b) (h2 : ∀ d, e ≤ d → d < b → q d = j) (h3 : 0 ≤ j → j ≠ lastJ la P) : TiU q F la (P ++ [(e, b, j)]) b := by
  induction h with
  | nil F la => exact .cons h1 h2 h3 (.nil _ _)
  | cons g1 g2 g3 _ ih => exact .cons g1 g2 g3 (ih h1 h2 h3)
def abR (M : List Ab) (p : Int × Int × Int) : Ab := ⟨p.1, p.2.1, (mAt M p.2.2).ki, (mAt M p.2.2).pa, (mAt M p.2.2).nn⟩
theorem TiU.run {M : List Ab} {F la e : Int} {P : List (Int × Int × Int)} (h : TiU (fun d => atM M d M.length) F la P e) : ∀ O : List Ab, F ≤ e ∧ (rfG M (O, la) F (e - F).toNat).1 = O ++ (P.filter fun p => decide (0 ≤ p.2.2)).map (abR M) := by
  induction h with
  | nil F la =>
    intro O
    refine ⟨Int.le_refl _, ?_⟩
    rw [Int.sub_self]
    show O = _
    simp
  | @cons F la b e j P g1 g2 g3 _ ih =>
    intro O
    obtain ⟨n, hn⟩ : ∃ n : Nat, (b - F).toNat = n + 1 := ⟨(b - F).toNat - 1, by omega⟩
    have hb : b = F + ((n + 1 : Nat) : Int) := by omega
    have hall : ∀ i : Nat, i < n + 1 → atM M (F + i) M.length = j := fun i hi => g2 _ (by omega) (by omega)
    by_cases hj : 0 ≤ j
    · obtain ⟨h1, h2⟩ := ih (O ++ [abR M (F, b, j)])
      refine ⟨by omega, ?_⟩
      rw [show (e - F).toNat = (n + 1) + (e - b).toNat by omega, rfG_add, rfG_one hj (g3 hj) n hall, ← hb, List.filter_cons]
      simp only [hj, decide_true, if_true, List.map_cons]
      rw [show (⟨F, b, (mAt M j).ki, (mAt M j).pa, (mAt M j).nn⟩ : Ab) = abR M (F, b, j) from rfl, h2, List.append_assoc]
      rfl
    · obtain ⟨h1, h2⟩ := ih O
      refine ⟨by omega, ?_⟩
      rw [show (e - F).toNat = (n + 1) + (e - b).toNat by omega, rfG_add, rfG_low hj n hall, ← hb, List.filter_cons]
      simp only [hj, decide_false, Bool.false_eq_true, if_false]
      exact h2

theorem inB_constA {f : Fa} {a b : Int} (hab : a ≤ b) (h : ∀ c, a < c → c ≤ b → f.fr ≠ c ∧ f.to ≠ c) : inB f a = inB f b := by
  have h1 : decide (f.fr ≤ a) = decide (f.fr ≤ b) := decide_eq_decide.2 ⟨fun _ => by omega, fun _ => by
    by_cases hx : a < f.fr
    · exact absurd rfl (h f.fr hx (by assumption)).1
    · omega⟩
  have h2 : decide (a < f.to) = decide (b < f.to) := decide_eq_decide.2 ⟨fun hx => by
    by_cases hy : f.to ≤ b
    · exact absurd rfl (h f.to hx hy).2
    · omega, fun _ => by omega⟩
  unfold inB
  rw [h1, h2]
theorem plc_constA {X : List Kn} {a b : Int} (hab : a ≤ b) (h : ∀ c, a < c → c ≤ b → ∀ x ∈ X, x.2.fr ≠ c ∧ x.2.to ≠ c) : ∀ k, plc X a k = plc X b k
  | 0 => rfl
  | k + 1 => by
    have ih := plc_constA hab h k
    cases hx : X[k]? with
    | none => rw [plc, plc, hx]; exact ih
    | some x =>
      rw [plc_succ hx, plc_succ hx, ih, inB_constA hab (fun c h1 h2 => h c h1 h2 x (List.mem_of_getElem? hx))]
theorem mem_endsA {X : List Kn} {F T d : Int} (h1 : F < d ∧ d < T) (h2 : ∃ x ∈ X, d = x.2.fr ∨ d = x.2.to) : d ∈ endsL F T X := by
  obtain ⟨x, hx, hd⟩ := h2
  unfold endsL
  rw [List.mem_flatMap]
  refine ⟨x, hx, ?_⟩
  rw [List.mem_filter]
  refine ⟨by rcases hd with rfl | rfl <;> simp, ?_⟩
  unfold selB
  simp [h1.1, h1.2]
theorem mem_cutsA {X : List Kn} {F T d : Int} (h1 : F < d ∧ d < T) (h2 : ∃ x ∈ X, d = x.2.fr ∨ d = x.2.to) : d ∈ cutsL X F T := by
  unfold cutsL
  exact (mem_foldU _ _ _).2 (.inl (mem_endsA h1 h2))
/-- Where the fold over the cuts stands. -/
structure StU (X : List Kn) (F c : Int) (s : SS) : Prop where
  tile : TiU (fun d => plc X d X.length) F (-1) s.2.2 s.1
  le : s.1 ≤ c
  const : ∀ d, s.1 ≤ d → d ≤ c → plc X d X.length = s.2.1
  un : 0 ≤ s.2.1 → s.2.1 ≠ lastJ (-1) s.2.2
theorem StU.upto {X : List Kn} {F c e : Int} {s : SS} (h : StU X F c s) (hno : ∀ d, c < d → d < e → ∀ x ∈ X, x.2.fr ≠ d ∧ x.2.to ≠ d) : ∀ d, s.1 ≤ d → d < e → plc X d X.length = s.2.1 := fun d h1 h2 => by
  by_cases hd : d ≤ c
  · exact h.const d h1 hd
  · rw [← h.const c h.le (Int.le_refl _)]
    exact (plc_constA (by omega) (fun k k1 k2 => hno k k1 (by omega)) _).symm
theorem StU.step {X : List Kn} {F c e : Int} {s : SS} (h : StU X F c s) (hce : c < e) (hno : ∀ d, c < d → d < e → ∀ x ∈ X, x.2.fr ≠ d ∧ x.2.to ≠ d) : StU X F e (strS X s e) := by
  have hu := h.upto hno
  have hl := h.le
  unfold strS
  by_cases hq : plc X e X.length = s.2.1
  · rw [if_pos hq]
    refine ⟨h.tile, by omega, fun d h1 h2 => ?_, h.un⟩
    by_cases hde : d = e
    · subst hde; exact hq
    · exact hu d h1 (by omega)
  · rw [if_neg hq]
    refine ⟨h.tile.snoc (by omega) hu h.un, Int.le_refl _, fun d h1 h2 => ?_, fun _ => ?_⟩
    · obtain rfl : d = e := by simp at h1; omega
      rfl
    · rw [lastJ_snoc]
      exact hq
theorem StU.all {X : List Kn} {F T : Int} : ∀ (C : List Int) {c : Int} {s : SS}, StU X F c s → C.Pairwise (· < ·) → (∀ d ∈ C, c < d ∧ d < T) → (∀ d, c < d → d < T → (∃ x ∈ X, d = x.2.fr ∨ d = x.2.to) → d ∈ C) → c < T →
    TiU (fun d => plc X d X.length) F (-1) ((C.foldl (strS X) s).2.2 ++ [((C.foldl (strS X) s).1, T, (C.foldl (strS X) s).2.1)]) T
  | [], c, s, h, _, _, hall, hT => by
    have hl := h.le
    refine h.tile.snoc (show s.1 < T by omega) (h.upto fun d h1 h2 x hx => ⟨fun e => ?_, fun e => ?_⟩) h.un
    · exact absurd (hall d h1 h2 ⟨x, hx, .inl e.symm⟩) (List.not_mem_nil)
    · exact absurd (hall d h1 h2 ⟨x, hx, .inr e.symm⟩) (List.not_mem_nil)
  | e :: C, c, s, h, hp, hm, hall, hT => by
    rw [List.pairwise_cons] at hp
    have he := hm e (List.mem_cons_self)
    rw [List.foldl_cons]
    have hnot : ∀ d, c < d → d < e → (∃ x ∈ X, d = x.2.fr ∨ d = x.2.to) → False := fun d h1 h2 hx => by
      rcases List.mem_cons.1 (hall d h1 (by omega) hx) with h3 | h3
      · omega
      · have := hp.1 d h3
        omega
    refine StU.all C (h.step he.1 fun d h1 h2 x hx => ⟨fun e2 => hnot d h1 h2 ⟨x, hx, .inl e2.symm⟩, fun e2 => hnot d h1 h2 ⟨x, hx, .inr e2.symm⟩⟩) hp.2 (fun d hd => ⟨hp.1 d hd, (hm d (List.mem_cons_of_mem _ hd)).2⟩) (fun d h1 h2 hx => ?_) he.2
    rcases List.mem_cons.1 (hall d (by omega) h2 hx) with h3 | h3
    · omega
    · exact h3
theorem strL_tiu {X : List Kn} {F T : Int} (h : F < T) : TiU (fun d => plc X d X.length) F (-1) (strL X F T) T := by
  unfold strL strK
  rw [if_neg (by omega)]
  refine StU.all (cutsL X F T) (c := F) ⟨.nil F (-1), Int.le_refl _, fun d h1 h2 => ?_, fun h0 e => ?_⟩ (sorted_foldU _ _ .nil) (fun d hd => mem_cuts hd) (fun d h1 h2 hx => mem_cutsA ⟨h1, h2⟩ hx) h
  · obtain rfl : d = F := by simp at h1; omega
    rfl
  · rw [e] at h0
    exact absurd h0 (by show ¬ (0 : Int) ≤ -1; omega)
theorem rf_strQ (X : List Kn) (F U : Int) : (rfN (X.map toAb) F (U - F).toNat).1 = (strQ X F U).map (abR (X.map toAb)) := by
  rw [rfN_G]
  unfold strQ
  by_cases h : F < U
  · have h1 := strL_tiu (X := X) h
    have hq : (fun d => plc X d X.length) = fun d => atM (X.map toAb) d (X.map toAb).length := by
      funext d
      rw [atM_plc, List.length_map]
    rw [hq] at h1
    rw [(h1.run []).2, List.nil_append]
  · unfold strL
    rw [if_pos (by omega), show (U - F).toNat = 0 by omega]
    rfl
theorem mem_chosenA {p : Fa → Bool} {L : List Fa} {k : Nat} {x : Kn} (h : x ∈ chosen p L k) : x.2 ∈ L ∧ p x.2 = true := by
  unfold chosen at h
  rw [List.mem_filterMap] at h
  obtain ⟨i, _, hi⟩ := h
  cases hx : L[i]? with
  | none => rw [hx] at hi; cases hi
  | some f =>
    rw [hx] at hi
    simp only at hi
    split at hi
    · cases hi
    · split at hi
      · injection hi with hi
        subst hi
        exact ⟨List.mem_of_getElem? hx, by assumption⟩
      · cases hi
theorem chk_abs {f : Fa} (h : chkF f = 0) (hk : f.ki = 7) : kiN f.co = (kiB f.co).1 := by
  have hc : codeB 7 (ls f.co) = true := by
    unfold chkF at h
    rw [hk] at h
    cases hb : codeB 7 (ls f.co) with
    | true => rfl
    | false =>
      exfalso
      rw [hb] at h
      rw [if_neg (by omega)] at h
      split at h
      · omega
      · split at h
        · contradiction
        · rw [if_pos rfl] at h; omega
  have hc2 : absenceB (ls f.co) = true := hc
  unfold absenceB at hc2
  rw [decide_eq_true_iff] at hc2
  have e : f.co.toList = ls f.co := toList_ls f.co
  unfold kiN kiB
  rw [e]
  rcases hc2 with h1 | h1 | h1 | h1 <;> rw [h1] <;> decide
/-- A person's absences are the document's. -/
theorem tells_law {T : List Fa} {pe F U : Int} (h18 : ∀ f ∈ T, f.ki ≠ 18) (hc : ∀ f ∈ T, chkF f = 0) : (rfN (toMs pe T) F (U - F).toNat).1 = absX (kA T pe) F U := by
  rw [toMs_kA h18, rf_strQ]
  unfold absX
  refine List.map_congr_left fun p hp => ?_
  obtain ⟨j, x, h1, h2, _, h4⟩ := strQ_ok hp
  rw [h4]
  have hm := mem_chosenA (List.mem_of_getElem? h2)
  have h7 : x.2.ki = 7 := by
    have := hm.2
    unfold ofPK at this
    simpa using (decide_eq_true_iff.1 this).2
  have e : mAt ((kA T pe).map toAb) p.2.2 = toAb x := by
    unfold mAt
    rw [h1, Int.toNat_natCast, List.getElem?_map, h2]
    rfl
  unfold abR
  rw [e, ← chk_abs (hc _ hm.1) h7]
  rfl
theorem tell_chkA : ∀ (l L : List Fa), (∀ x ∈ L, chkF x = 0) → ∀ x ∈ tellL L l, chkF x = 0
  | [], L, h => h
  | f :: l, L, h => by
    rw [tellL_cons]
    refine tell_chkA l _ fun x hx => ?_
    rcases addL_or L f with ⟨e, _, he⟩ | ⟨he, _, hc, _, _⟩
    · rw [he] at hx; exact h x hx
    · rw [he] at hx
      rcases List.mem_append.1 hx with hx | hx
      · exact h x hx
      · rw [List.mem_singleton.1 hx]; exact hc
end Go.Proofs.YtlgoaohklggcdaaGreatDoor
