/- Words of a text: plain, no program. -/
import Derived.Lib.IndexBytes
namespace Go.Proofs.YtlaolodnnjcgdaaDoor.Wd
abbrev Bs := List UInt8
def isSp (c : UInt8) : Bool := c == 32 || c == 9 || c == 13 || c == 10
def isL (c : UInt8) : Bool := (97 ≤ c && c ≤ 122) || (65 ≤ c && c ≤ 90) || c == 95
def isD (c : UInt8) : Bool := 48 ≤ c && c ≤ 57
def isN (c : UInt8) : Bool := isL c || isD c
def isM (c : UInt8) : Bool := c == 58 || c == 124 || c == 59
/-- behind what stands between words; the flag: within a note -/
def sk : Bool → Bs → Bs
  | _, [] => []
  | false, c :: r => if isSp c then sk false r else if c == 35 then sk true r else c :: r
  | true, c :: r => if c == 10 then sk false r else sk true r
theorem sk_length (b : Bool) (s : Bs) : (sk b s).length ≤ s.length := by
  induction s generalizing b with
  | nil => cases b <;> simp [sk]
  | cons c r ih =>
    cases b
    · unfold sk
      split
      · have := ih false; simp; omega
      · split
        · have := ih true; simp; omega
        · simp
    · unfold sk
      split
      · have := ih false; simp; omega
      · have := ih true; simp; omega
/-- how many bytes a pattern has, up to its closing slash -/
def pat : Bs → Option Nat
  | [] => none
  | [c] => if c == 47 then some 0 else none
  | c :: d :: r => if c == 47 then some 0 else if c == 92 then (if d == 10 || d == 13 then none else (pat r).map (· + 2)) else if c == 13 || c == 10 then none else (pat (d :: r)).map (· + 1)
theorem pat_lt : ∀ (s : Bs) (k : Nat), pat s = some k → k < s.length
  | [], k, h => by simp [pat] at h
  | [c], k, h => by
    unfold pat at h
    split at h
    · simp at h; simp; omega
    · simp at h
  | c :: d :: r, k, h => by
    unfold pat at h
    split at h
    · simp at h; simp; omega
    · split at h
      · split at h
        · simp at h
        · obtain ⟨j, hj, rfl⟩ := Option.map_eq_some_iff.1 h
          have := pat_lt r j hj
          simp; omega
      · split at h
        · simp at h
        · obtain ⟨j, hj, rfl⟩ := Option.map_eq_some_iff.1 h
          have := pat_lt (d :: r) j hj
          simp at this ⊢; omega
/-- the word that a text begins with: its kind, its text, how many bytes it has; 0: none -/
def first : Bs → Nat × Bs × Nat
  | [] => (0, [], 0)
  | c :: r =>
    if isL c then
      let t := (c :: r).takeWhile isN
      (0, t, if 32 < t.length then 0 else t.length)
    else if isD c then
      let t := (c :: r).takeWhile isD
      (1, t, if 4 < t.length then 0 else t.length)
    else if c == 47 then match pat r with
      | none => (0, [], 0)
      | some k => (2, r.take k, k + 2)
    else if isM c then (3, [c], 1)
    else (0, [], 0)
theorem first_le (s : Bs) : (first s).2.2 ≤ s.length := by
  unfold first
  split
  · simp
  · rename_i c r
    split
    · have : ((c :: r).takeWhile isN).length ≤ (c :: r).length := (List.takeWhile_sublist _).length_le
      simp only
      split <;> omega
    · split
      · have : ((c :: r).takeWhile isD).length ≤ (c :: r).length := (List.takeWhile_sublist _).length_le
        simp only
        split <;> omega
      · split
        · split
          · simp
          · rename_i k hk
            have := pat_lt r k hk
            simp; omega
        · split <;> simp
/-- a word: its kind, its text, where it stands -/
structure Wo where
  k : Int
  t : Bs
  at_ : Nat
deriving DecidableEq
/-- a text's words from a place on (n: how many are looked for at most); where no word stands -/
def wds (L : Nat) : Nat → Bs → List Wo × Option Nat
  | 0, _ => ([], none)
  | n + 1, s => match s with
    | [] => ([], none)
    | _ :: _ => let f := first s
      if f.2.2 = 0 then ([], some (L - s.length)) else
        let x := wds L n (sk false (s.drop f.2.2))
        (⟨f.1, f.2.1, L - s.length⟩ :: x.1, x.2)
/-- a text's words, or where none stands -/
def words (s : Bs) : List Wo × Option Nat := wds s.length s.length (sk false s)
theorem wds_more (L : Nat) : ∀ (n m : Nat) (s : Bs), s.length ≤ n → n ≤ m → wds L m s = wds L n s
  | 0, m, s, h, _ => by
    obtain rfl := List.eq_nil_of_length_eq_zero (Nat.le_zero.1 h)
    cases m <;> simp [wds]
  | n + 1, 0, s, _, h => by omega
  | n + 1, m + 1, s, h, hm => by
    cases s with
    | nil => simp [wds]
    | cons c r =>
      unfold wds
      simp only
      split
      · rfl
      · rename_i hf
        rw [wds_more L n m _ ?_ (by omega)]
        have := sk_length false ((c :: r).drop (first (c :: r)).2.2)
        simp at this h ⊢; omega
/-- one step: the word, then the others -/
theorem wds_step (L n : Nat) (s : Bs) (hn : s.length ≤ n) (hs : s ≠ []) : wds L n s = if (first s).2.2 = 0 then ([], some (L - s.length)) else (⟨(first s).1, (first s).2.1, L - s.length⟩ :: (wds L n (sk false (s.drop (first s).2.2))).1, (wds L n (sk false (s.drop (first s).2.2))).2) := by
  cases s with
  | nil => exact absurd rfl hs
  | cons c r =>
    obtain ⟨m, rfl⟩ : ∃ m, n = m + 1 := ⟨n - 1, by simp at hn; omega⟩
    rw [wds]
    simp only
    split
    · rfl
    · have := sk_length false ((c :: r).drop (first (c :: r)).2.2)
      rw [wds_more L m (m + 1) _ (by simp at this hn ⊢; omega) (by omega)]
end Go.Proofs.YtlaolodnnjcgdaaDoor.Wd
