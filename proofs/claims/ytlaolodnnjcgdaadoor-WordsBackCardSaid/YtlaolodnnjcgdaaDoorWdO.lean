/- Words that are joined are these words again: plain, no program. -/
import Derived.Test.YtlaolodnnjcgdaaDoorWdN
namespace Go.Proofs.YtlaolodnnjcgdaaDoor.Wd
open Go
/-- nothing follows, or a blank -/
def Ends (rest : Bs) : Prop := rest = [] ∨ ∃ r, rest = 32 :: r
theorem tw_app (p : UInt8 → Bool) (hp : p 32 = false) (l rest : Bs) (hl : ∀ y ∈ l, p y = true) (hr : Ends rest) : (l ++ rest).takeWhile p = l := by
  induction l with
  | nil =>
    rcases hr with rfl | ⟨r, rfl⟩
    · rfl
    · rw [List.nil_append, List.takeWhile_cons, if_neg (by simp [hp])]
  | cons y l ih => rw [List.cons_append, List.takeWhile_cons, if_pos (hl y (by simp)), ih (fun z hz => hl z (by simp [hz]))]
theorem tw_all (p : UInt8 → Bool) (l : Bs) : ∀ y ∈ l.takeWhile p, p y = true := by
  induction l with
  | nil => intro y hy; simp at hy
  | cons c r ih =>
    intro y hy
    rw [List.takeWhile_cons] at hy
    split at hy
    · rename_i h
      rcases List.mem_cons.1 hy with rfl | hy
      · exact h
      · exact ih y hy
    · simp at hy
theorem pat_take : ∀ (r : Bs) (k : Nat) (rest : Bs), pat r = some k → pat (r.take k ++ 47 :: rest) = some k
  | [], k, rest, h => by simp [pat] at h
  | [c], k, rest, h => by
    unfold pat at h
    split at h
    · simp at h
      subst h
      exact pat_slash rest
    · simp at h
  | c :: d :: q, k, rest, h => by
    unfold pat at h
    split at h
    · simp at h
      subst h
      exact pat_slash rest
    · rename_i h47
      split at h
      · rename_i h92
        split at h
        · simp at h
        · rename_i hnl
          obtain ⟨j, hj, rfl⟩ := Option.map_eq_some_iff.1 h
          obtain rfl : c = 92 := by simpa using h92
          rw [List.take_succ_cons, List.take_succ_cons, List.cons_append, List.cons_append, pat_esc _ _ (by simpa using hnl), pat_take q j rest hj]
          rfl
      · rename_i h92
        split at h
        · simp at h
        · rename_i hnl
          obtain ⟨j, hj, rfl⟩ := Option.map_eq_some_iff.1 h
          simp only [Bool.or_eq_true, not_or, Bool.not_eq_true] at hnl
          rw [List.take_succ_cons, List.cons_append, pat_plain _ _ (by simpa using h47) (by simpa using h92) hnl.1 hnl.2, pat_take (d :: q) j rest hj]
          rfl
/-- a word that is read again as it is written -/
structure Ok (x : Wo) : Prop where
  first : ∀ rest, Ends rest → ∃ k : Nat, x.k = k ∧ first (jn x ++ rest) = (k, x.t, (jn x).length)
  pos : 0 < (jn x).length
  head : ∀ rest, sk false (jn x ++ rest) = jn x ++ rest
  name : x.k = 0 → nmB x.t = true
theorem sk_head (c : UInt8) (r : Bs) (h : (isL c || isD c || c == 47 || isM c) = true) : sk false (c :: r) = c :: r := by
  have key : ∀ n : Fin 256, (isL (UInt8.ofNat n.val) || isD (UInt8.ofNat n.val) || UInt8.ofNat n.val == 47 || isM (UInt8.ofNat n.val)) = true → isSp (UInt8.ofNat n.val) = false ∧ (UInt8.ofNat n.val == 35) = false := by decide +kernel
  have := key ⟨c.toNat, c.toNat_lt⟩ (by simpa using h)
  have h1 : isSp c = false := by simpa using this.1
  have h2 : (c == 35) = false := by simpa using this.2
  exact sk_word c r h1 h2
theorem ok_first (c : UInt8) (r : Bs) (p : Nat) (h : (first (c :: r)).2.2 ≠ 0) : Ok ⟨(first (c :: r)).1, (first (c :: r)).2.1, p⟩ ∧ (jn ⟨(first (c :: r)).1, (first (c :: r)).2.1, p⟩).length = (first (c :: r)).2.2 := by
  by_cases hL : isL c = true
  · have hf := first_L r hL
    have hN : isN c = true := by unfold isN; rw [hL]; rfl
    have htw : (c :: r).takeWhile isN = c :: r.takeWhile isN := by rw [List.takeWhile_cons, if_pos hN]
    rw [hf] at h ⊢
    have hlim : ¬ 32 < ((c :: r).takeWhile isN).length := fun h32 => h (by simp only; rw [if_pos h32])
    simp only [if_neg hlim]
    have hj : jn ⟨((0 : Nat) : Int), (c :: r).takeWhile isN, p⟩ = (c :: r).takeWhile isN := by unfold jn; rw [if_neg (by simp)]
    have hfirst : ∀ rest, Ends rest → first ((c :: r).takeWhile isN ++ rest) = (0, (c :: r).takeWhile isN, ((c :: r).takeWhile isN).length) := fun rest hr => by
      have e := tw_app isN (by decide) ((c :: r).takeWhile isN) rest (tw_all isN _) hr
      have e2 : (c :: r).takeWhile isN ++ rest = c :: (r.takeWhile isN ++ rest) := by rw [htw]; rfl
      have h3 := first_L (r.takeWhile isN ++ rest) hL
      rw [← e2, e, if_neg hlim] at h3
      exact h3
    refine ⟨⟨fun rest hr => ⟨0, rfl, ?_⟩, ?_, fun rest => ?_, fun _ => ?_⟩, by rw [hj]⟩
    · rw [hj]; exact hfirst rest hr
    · rw [hj, htw]; simp
    · rw [hj, htw]; exact sk_head c _ (by rw [hL]; rfl)
    · have h4 := hfirst [] (.inl rfl)
      rw [List.append_nil] at h4
      show nmB ((c :: r).takeWhile isN) = true
      rw [htw] at h4 ⊢
      rw [nmB, hL, h4]
      simp
  · have hL : isL c = false := by simpa using hL
    by_cases hD : isD c = true
    · have hf := first_D r hL hD
      have htw : (c :: r).takeWhile isD = c :: r.takeWhile isD := by rw [List.takeWhile_cons, if_pos hD]
      rw [hf] at h ⊢
      have hlim : ¬ 4 < ((c :: r).takeWhile isD).length := fun h32 => h (by simp only; rw [if_pos h32])
      simp only [if_neg hlim]
      have hj : jn ⟨((1 : Nat) : Int), (c :: r).takeWhile isD, p⟩ = (c :: r).takeWhile isD := by unfold jn; rw [if_neg (by simp)]
      refine ⟨⟨fun rest hr => ⟨1, rfl, ?_⟩, ?_, fun rest => ?_, fun h0 => absurd h0 (by simp)⟩, by rw [hj]⟩
      · rw [hj]
        have e := tw_app isD (by decide) ((c :: r).takeWhile isD) rest (tw_all isD _) hr
        have e2 : (c :: r).takeWhile isD ++ rest = c :: (r.takeWhile isD ++ rest) := by rw [htw]; rfl
        have h3 := first_D (r.takeWhile isD ++ rest) hL hD
        rw [← e2, e, if_neg hlim] at h3
        exact h3
      · rw [hj, htw]; simp
      · rw [hj, htw]; exact sk_head c _ (by rw [hL, hD]; rfl)
    · have hD : isD c = false := by simpa using hD
      by_cases h47 : (c == 47) = true
      · obtain rfl : c = 47 := by simpa using h47
        cases hp : pat r with
        | none => rw [first_Q hL hD h47 hp] at h; exact absurd rfl h
        | some k =>
          have hk := pat_lt r k hp
          rw [first_P hL hD h47 hp]
          have hj : jn ⟨((2 : Nat) : Int), r.take k, p⟩ = [47] ++ r.take k ++ [47] := by unfold jn; exact if_pos rfl
          have hlen : ([47] ++ r.take k ++ [47]).length = k + 2 := by simp; omega
          refine ⟨⟨fun rest hr => ⟨2, rfl, ?_⟩, ?_, fun rest => ?_, fun h0 => absurd h0 (by simp)⟩, by rw [hj]; exact hlen⟩
          · show first (jn ⟨((2 : Nat) : Int), r.take k, p⟩ ++ rest) = _
            rw [hj]
            have e2 : [47] ++ r.take k ++ [47] ++ rest = 47 :: (r.take k ++ 47 :: rest) := by simp
            have h3 := first_P hL hD h47 (pat_take r k rest hp)
            rw [e2, h3, hlen]
            congr 2
            rw [List.take_append_of_le_length (by rw [List.length_take]; omega), List.take_take, Nat.min_self]
          · rw [hj, hlen]; omega
          · rw [hj]; exact sk_head 47 _ rfl
      · have h47 : (c == 47) = false := by simpa using h47
        by_cases hM : isM c = true
        · rw [first_M r hL hD h47 hM]
          have hj : jn ⟨((3 : Nat) : Int), [c], p⟩ = [c] := by unfold jn; rw [if_neg (by simp)]
          refine ⟨⟨fun rest hr => ⟨3, rfl, ?_⟩, ?_, fun rest => ?_, fun h0 => absurd h0 (by simp)⟩, by rw [hj]; rfl⟩
          · rw [hj]; exact first_M rest hL hD h47 hM
          · rw [hj]; simp
          · rw [hj]; exact sk_head c _ (by rw [hL, hD, h47, hM]; rfl)
        · have hM : isM c = false := by simpa using hM
          rw [first_0 r hL hD h47 hM] at h
          exact absurd rfl h
theorem wds_ok (L : Nat) : ∀ (n : Nat) (u : Bs), (∀ x ∈ (wds L n u).1, Ok x) ∧ (Lib.joinTail [32] ((wds L n u).1.map jn)).length ≤ 2 * u.length
  | 0, u => ⟨fun x hx => by simp [wds] at hx, by simp [wds, Lib.joinTail]⟩
  | n + 1, [] => ⟨fun x hx => by simp [wds] at hx, by simp [wds, Lib.joinTail]⟩
  | n + 1, c :: r => by
    unfold wds
    simp only
    split
    · exact ⟨fun x hx => (by cases hx), by simp [Lib.joinTail]⟩
    · rename_i hn
      obtain ⟨h1, h2⟩ := wds_ok L n (sk false ((c :: r).drop (first (c :: r)).2.2))
      obtain ⟨h3, h4⟩ := ok_first c r (L - (c :: r).length) hn
      refine ⟨fun x hx => ?_, ?_⟩
      · rcases List.mem_cons.1 hx with rfl | hx
        · exact h3
        · exact h1 x hx
      · have e : Lib.joinTail [32] ((⟨(first (c :: r)).1, (first (c :: r)).2.1, L - (c :: r).length⟩ :: (wds L n (sk false ((c :: r).drop (first (c :: r)).2.2))).1).map jn) = [32] ++ jn ⟨(first (c :: r)).1, (first (c :: r)).2.1, L - (c :: r).length⟩ ++ Lib.joinTail [32] ((wds L n (sk false ((c :: r).drop (first (c :: r)).2.2))).1.map jn) := by
          unfold Lib.joinTail
          simp
        rw [e, List.length_append, List.length_append, List.length_singleton, h4]
        have h5 := sk_length false ((c :: r).drop (first (c :: r)).2.2)
        have h6 := first_le (c :: r)
        rw [List.length_drop] at h5
        omega
theorem joinW_cons (x : Wo) (ws : List Wo) : joinW (x :: ws) = jn x ++ Lib.joinTail [32] (ws.map jn) := by
  unfold joinW
  rw [List.map_cons, Lib.join_cons]
theorem joinW_le (ws : List Wo) : (joinW ws).length ≤ (Lib.joinTail [32] (ws.map jn)).length := by
  cases ws with
  | nil => simp [joinW, Lib.join_nil]
  | cons x r =>
    rw [joinW_cons]
    unfold Lib.joinTail
    simp
theorem tail_ends (ws : List Wo) : Ends (Lib.joinTail [32] (ws.map jn)) ∧ (∀ y r, ws = y :: r → Lib.joinTail [32] (ws.map jn) = 32 :: joinW ws) := by
  cases ws with
  | nil => exact ⟨.inl rfl, fun y r h => by cases h⟩
  | cons y r =>
    have e : Lib.joinTail [32] ((y :: r).map jn) = 32 :: joinW (y :: r) := by
      rw [joinW_cons]
      unfold Lib.joinTail
      simp
    exact ⟨.inr ⟨_, e⟩, fun _ _ _ => e⟩
theorem sk_join (ws : List Wo) (h : ∀ x ∈ ws, Ok x) : sk false (joinW ws) = joinW ws := by
  cases ws with
  | nil => rfl
  | cons x r => rw [joinW_cons]; exact (h x (by simp)).head _
theorem sk_tail (ws : List Wo) (h : ∀ x ∈ ws, Ok x) : sk false (Lib.joinTail [32] (ws.map jn)) = joinW ws := by
  cases ws with
  | nil => rfl
  | cons y r =>
    rw [(tail_ends (y :: r)).2 y r rfl, sk_sp 32 _ (by decide)]
    exact sk_join _ h
theorem wds_join (L : Nat) : ∀ (ws : List Wo), (∀ x ∈ ws, Ok x) → ∀ n, (joinW ws).length ≤ n → (wds L n (joinW ws)).2 = none ∧ (wds L n (joinW ws)).1.map (key false) = ws.map (key false)
  | [], _, n, _ => by
    have e : wds L n (joinW []) = ([], none) := by
      show wds L n [] = _
      cases n <;> rfl
    rw [e]
    exact ⟨rfl, rfl⟩
  | x :: ws, h, n, hn => by
    have hx := h x (by simp)
    have hws : ∀ y ∈ ws, Ok y := fun y hy => h y (by simp [hy])
    obtain ⟨k, hk, hf⟩ := hx.first (Lib.joinTail [32] (ws.map jn)) (tail_ends ws).1
    have hp := hx.pos
    rw [← joinW_cons] at hf
    have hne : joinW (x :: ws) ≠ [] := fun e => by
      have := congrArg List.length e
      rw [joinW_cons, List.length_append, List.length_nil] at this
      omega
    rw [wds_step L n _ hn hne, hf]
    simp only
    rw [if_neg (by omega)]
    have hd : (joinW (x :: ws)).drop (jn x).length = Lib.joinTail [32] (ws.map jn) := by rw [joinW_cons, List.drop_left]
    rw [hd, sk_tail ws hws]
    obtain ⟨h1, h2⟩ := wds_join L ws hws n (by
      have := joinW_le ws
      rw [joinW_cons, List.length_append] at hn
      omega)
    refine ⟨h1, ?_⟩
    rw [List.map_cons, List.map_cons, h2]
    congr 1
    unfold key
    rw [hk]
    rfl
/-- places rise -/
theorem wds_places (L : Nat) : ∀ (n : Nat) (u : Bs), u.length ≤ L → (∀ x ∈ (wds L n u).1, L - u.length ≤ x.at_) ∧ (wds L n u).1.Pairwise (fun x y => x.at_ < y.at_)
  | 0, u, _ => ⟨fun x hx => by simp [wds] at hx, by simp [wds]⟩
  | n + 1, [], _ => ⟨fun x hx => by simp [wds] at hx, by simp [wds]⟩
  | n + 1, c :: r, hL => by
    unfold wds
    simp only
    split
    · exact ⟨fun x hx => (by cases hx), .nil⟩
    · rename_i hn
      have h5 := sk_length false ((c :: r).drop (first (c :: r)).2.2)
      have h6 := first_le (c :: r)
      rw [List.length_drop] at h5
      obtain ⟨h1, h2⟩ := wds_places L n (sk false ((c :: r).drop (first (c :: r)).2.2)) (by omega)
      refine ⟨fun x hx => ?_, List.pairwise_cons.2 ⟨fun y hy => ?_, h2⟩⟩
      · rcases List.mem_cons.1 hx with rfl | hx
        · exact Nat.le_refl _
        · have := h1 x hx; omega
      · have := h1 y hy
        show L - (c :: r).length < y.at_
        omega
theorem wds_bad_at (L : Nat) : ∀ (n : Nat) (u : Bs) (p : Nat), u.length ≤ L → (wds L n u).2 = some p → p < L
  | 0, u, p, _, h => by simp [wds] at h
  | n + 1, [], p, _, h => by simp [wds] at h
  | n + 1, c :: r, p, hL, h => by
    unfold wds at h
    simp only at h
    split at h
    · simp at h
      simp at hL
      omega
    · have h5 := sk_length false ((c :: r).drop (first (c :: r)).2.2)
      rw [List.length_drop] at h5
      exact wds_bad_at L n _ p (by omega) h
/-- what the law asks of a text's words -/
theorem back_plain (s : Bs) (hs : s.length ≤ 500) (h0 : (allOf s).2.1 = 0) : (∀ x ∈ (allOf s).1, Ok x) ∧ (allOf s).1.Pairwise (fun x y => x.at_ < y.at_) ∧ (allOf (joinW (allOf s).1)).2.1 = 0 ∧ (allOf (joinW (allOf s).1)).1.map (key false) = (allOf s).1.map (key false) := by
  have e0 : words s = wds s.length s.length (sk false s) := rfl
  have hk := sk_length false s
  obtain ⟨h1, h2⟩ := wds_ok s.length s.length (sk false s)
  obtain ⟨_, h3⟩ := wds_places s.length s.length (sk false s) hk
  rw [← e0] at h1 h2 h3
  have hw : words s = ((allOf s).1, none) ∧ (allOf s).1 = (words s).1 := by
    unfold allOf at *
    rw [if_neg (by omega)] at *
    revert h0
    generalize words s = z
    obtain ⟨ws, q⟩ := z
    cases q with
    | none => intro _; exact ⟨rfl, rfl⟩
    | some p => intro h; exact absurd h (by simp)
  rw [← hw.2] at h1 h2 h3
  have hj := joinW_le (allOf s).1
  have hlen : ¬ 65536 < (joinW (allOf s).1).length := by omega
  have h4 := wds_join (joinW (allOf s).1).length (allOf s).1 h1 (joinW (allOf s).1).length (Nat.le_refl _)
  have e1 : words (joinW (allOf s).1) = wds (joinW (allOf s).1).length (joinW (allOf s).1).length (joinW (allOf s).1) := by
    unfold words
    rw [sk_join _ h1]
  rw [← e1] at h4
  have h5 : allOf (joinW (allOf s).1) = ((words (joinW (allOf s).1)).1, 0, 0) := allOf_done hlen (by rw [← h4.1])
  rw [h5]
  exact ⟨h1, h3, rfl, h4.2⟩
theorem back_bad (s : Bs) (hs : s.length ≤ 500) (h0 : (allOf s).2.1 ≠ 0) : (allOf s).2.2 < s.length ∧ (allOf s).1 = [] := by
  have e0 : words s = wds s.length s.length (sk false s) := rfl
  have hb := wds_bad_at s.length s.length (sk false s)
  rw [← e0] at hb
  unfold allOf at *
  rw [if_neg (by omega)] at *
  revert h0 hb
  generalize words s = z
  obtain ⟨ws, q⟩ := z
  cases q with
  | none => intro h; exact absurd rfl h
  | some p => intro _ hb; exact ⟨hb p (sk_length false s) rfl, rfl⟩
end Go.Proofs.YtlaolodnnjcgdaaDoor.Wd
