/- Slices and grammars in memory: what they read as. Over any program. -/
import Derived.Test.YtlppkbfkajionaaGwN
namespace Go.Proofs.Ytlppkbfkajionaa.Cm
open Go Go.RowKit Gw
set_option linter.unusedSimpArgs false
set_option linter.unusedVariables false
set_option linter.unusedSectionVars false
abbrev Bs := List UInt8
abbrev iv (x : Int) : Value := .int .i64 x
abbrev sv (x : Bs) : Value := .string (toB x)
abbrev bv (x : Bool) : Value := .bool x
/-- a slice in memory, of elements of one cell -/
structure Rv (w : World) (p : Option Addr) (c : Nat) (cs : List Value) : Prop where
  cap : cs.length ≤ c ∧ c ≤ 9223372036854775807
  at_ : ∀ (i : Nat) u, cs[i]? = some u → ∃ g o, p = some ⟨g, o, none⟩ ∧ w.cell? ⟨g, o + i * 1, none⟩ = some u
theorem cell_lt {w : World} {g k : Nat} {u : Value} (h : w.cell? ⟨g, k, none⟩ = some u) : g < w.heap.size := by
  rcases Nat.lt_or_ge g w.heap.size with h1 | h1
  · exact h1
  · simp [World.cell?, Array.getElem?_eq_none h1] at h
theorem cell_same {w w1 : World} {g k : Nat} {u : Value} (hb : w1.heap[g]? = w.heap[g]?) (h : w.cell? ⟨g, k, none⟩ = some u) : w1.cell? ⟨g, k, none⟩ = some u := by
  simp only [World.cell?] at h ⊢
  rw [hb]; exact h
theorem cell_below {w w1 : World} (hb : Below w.heap.size w w1) {g k : Nat} {u : Value} (h : w.cell? ⟨g, k, none⟩ = some u) : w1.cell? ⟨g, k, none⟩ = some u := cell_same (hb.block g (cell_lt h)) h
theorem below_trans {a b c : World} (h : Below a.heap.size a b) (h2 : Below b.heap.size b c) : Below a.heap.size a c :=
  ⟨h2.os.trans h.os, h2.tape.trans h.tape, h2.output.trans h.output, Nat.le_trans h.size h2.size, fun k hk => (h2.block k (Nat.lt_of_lt_of_le hk h.size)).trans (h.block k hk)⟩
/-- the worlds that keep what a relation of values reads -/
def Keep (U : Value → Prop) (w w1 : World) : Prop := ∀ g k u, U u → w.cell? ⟨g, k, none⟩ = some u → w1.cell? ⟨g, k, none⟩ = some u
theorem keep_below {U : Value → Prop} {w w1 : World} (hb : Below w.heap.size w w1) : Keep U w w1 := fun _ _ _ _ h => cell_below hb h
theorem Keep.trans {U : Value → Prop} {w w1 w2 : World} (h : Keep U w w1) (h2 : Keep U w1 w2) : Keep U w w2 := fun g k u hu h3 => h2 g k u hu (h g k u hu h3)
theorem keep_refl {U : Value → Prop} {w : World} : Keep U w w := fun _ _ _ _ h => h
/-- all but one block abide; that one holds nothing of the kind -/
theorem keep_but {U : Value → Prop} {w w1 : World} {b : Nat} {cs : List Value} {t : TypeId} {fr : Nat × Nat} (hg : w.grownBy w1 (some b)) (hb : w.heap[b]? = some (.cells cs.toArray t fr)) (hU : ∀ u ∈ cs, ¬ U u) : Keep U w w1 := fun g k u hu h => by
  by_cases e : g = b
  · subst e
    rw [cell_blk hb] at h
    exact absurd hu (hU u (List.mem_of_getElem? h))
  · exact cell_same (hg.block g (cell_lt h) (by simpa using e)) h
def NoB : Value → Prop := fun u => ∀ b, u ≠ .bool b
def IsI : Value → Prop := fun u => ∃ x, u = iv x
def IsB : Value → Prop := fun u => ∃ x, u = bv x
theorem bools_not (l : List Bool) : ∀ u ∈ l.map bv, ¬ NoB u := fun u hu h => by
  obtain ⟨b, _, rfl⟩ := List.mem_map.1 hu
  exact h b rfl
theorem Rv.keep {U : Value → Prop} {w w1 : World} {p : Option Addr} {c : Nat} {cs : List Value} (h : Rv w p c cs) (hk : Keep U w w1) (hU : ∀ u ∈ cs, U u) : Rv w1 p c cs :=
  ⟨h.cap, fun i u hu => let ⟨g, o, hp, hc⟩ := h.at_ i u hu; ⟨g, o, hp, hk _ _ _ (hU u (List.mem_of_getElem? hu)) hc⟩⟩
theorem Rv.below {w w1 : World} {p : Option Addr} {c : Nat} {cs : List Value} (h : Rv w p c cs) (hb : Below w.heap.size w w1) : Rv w1 p c cs := h.keep (U := fun _ => True) (keep_below hb) (fun _ _ => trivial)
theorem Rv.read {w : World} {p : Option Addr} {c : Nat} {cs : List Value} (h : Rv w p c cs) {i : Nat} {u : Value} (hu : cs[i]? = some u) : ∃ g o, p = some ⟨g, o, none⟩ ∧ ∀ w', Below w.heap.size w w' → w'.cell? ⟨g, o + i * 1, none⟩ = some u :=
  let ⟨g, o, hp, hc⟩ := h.at_ i u hu; ⟨g, o, hp, fun _ hb => cell_below hb hc⟩
theorem Rv.nil (w : World) : Rv w none 0 [] := ⟨by simp, fun i u h => by simp at h⟩
theorem Rv.drop {w : World} {p : Option Addr} {c : Nat} {cs : List Value} (h : Rv w p c cs) (n : Nat) (hn : n ≤ cs.length) : Rv w (if c = n then p else p.map (·.add (n * 1))) (c - n) (cs.drop n) :=
  ⟨by rw [List.length_drop]; have := h.cap; omega, fun i u hu => by
    rw [List.getElem?_drop] at hu
    have hlt := (List.getElem?_eq_some_iff.1 hu).1
    have hcap := h.cap
    obtain ⟨g, o, rfl, hc⟩ := h.at_ _ u hu
    refine ⟨g, o + n * 1, ?_, ?_⟩
    · rw [if_neg (by omega), Option.map_some, add_addr]
    · rw [show o + n * 1 + i * 1 = o + (n + i) * 1 by omega]; exact hc⟩
theorem Rv.own {w : World} {b c : Nat} {cs : List Value} {t : TypeId} {fr : Nat × Nat} (hb : w.heap[b]? = some (.cells cs.toArray t fr)) (hc : cs.length ≤ c ∧ c ≤ 9223372036854775807) : Rv w (some ⟨b, 0, none⟩) c cs :=
  ⟨hc, fun i u hu => ⟨b, 0, rfl, by rw [cell_blk hb]; simpa using hu⟩⟩
theorem rv_of {w : World} {base e : Nat} {v : Value} {n : Nat} {cs : List Value} (h : w.ownsRow base e 1 v n cs) : ∃ p c, v = .slice p cs.length c ∧ Rv w p c cs := by
  obtain ⟨h1, h2⟩ := h
  rcases h2 with ⟨rfl, rfl⟩ | ⟨g, cap, cur, rfl, _, hh, hnc, hcm, hcs, htk⟩
  · obtain rfl : cs = [] := List.eq_nil_of_length_eq_zero (by omega)
    exact ⟨none, 0, rfl, Rv.nil w⟩
  · refine ⟨_, cap, by rw [h1, Nat.mul_one], ⟨by simp [maxLen] at hcm; omega, fun i u hu => ⟨g, 0, rfl, ?_⟩⟩⟩
    rw [← htk, List.getElem?_take] at hu
    split at hu
    · simp only [World.cell?, hh]
      simpa using hu
    · cases hu
/-- rows of numbers in memory -/
structure Rr (w : World) (p : Option Addr) (c : Nat) (rs : List (List Int)) : Prop where
  cap : rs.length ≤ c ∧ c ≤ 9223372036854775807
  at_ : ∀ (i : Nat) r, rs[i]? = some r → ∃ g o q d, p = some ⟨g, o, none⟩ ∧ w.cell? ⟨g, o + i * 1, none⟩ = some (.slice q r.length d) ∧ Rv w q d (r.map iv)
theorem Rr.keep {w w1 : World} {p : Option Addr} {c : Nat} {rs : List (List Int)} (h : Rr w p c rs) (hk : Keep NoB w w1) : Rr w1 p c rs :=
  ⟨h.cap, fun i r hr => let ⟨g, o, q, d, hp, hc, hv⟩ := h.at_ i r hr; ⟨g, o, q, d, hp, hk _ _ _ (fun b e => by cases e) hc, hv.keep hk (fun u hu b e => by
    obtain ⟨x, _, rfl⟩ := List.mem_map.1 hu
    cases e)⟩⟩
theorem keep_noB {w w1 : World} (hb : Below w.heap.size w w1) : Keep NoB w w1 := keep_below hb
theorem Rr.below {w w1 : World} {p : Option Addr} {c : Nat} {rs : List (List Int)} (h : Rr w p c rs) (hb : Below w.heap.size w w1) : Rr w1 p c rs := h.keep (keep_below hb)
theorem Rr.read {w : World} {p : Option Addr} {c : Nat} {rs : List (List Int)} (h : Rr w p c rs) {i : Nat} {r : List Int} (hr : rs[i]? = some r) : ∃ g o q d, p = some ⟨g, o, none⟩ ∧ (∀ w', Below w.heap.size w w' → w'.cell? ⟨g, o + i * 1, none⟩ = some (.slice q r.length d)) ∧ Rv w q d (r.map iv) :=
  let ⟨g, o, q, d, hp, hc, hv⟩ := h.at_ i r hr; ⟨g, o, q, d, hp, fun _ hb => cell_below hb hc, hv⟩
/-- a grammar: names, how many are tokens, which these are, rules, the start -/
structure Gr where
  names : List Bs
  terms : Int
  tokens : List Int
  rules : List (List Int)
  start : Int
theorem Gr.eq_iff (a b : Gr) : (a.names = b.names ∧ a.terms = b.terms ∧ a.tokens = b.tokens ∧ a.rules = b.rules ∧ a.start = b.start) ↔ a = b := by
  cases a; cases b; simp
instance : DecidableEq Gr := fun a b => decidable_of_iff _ (Gr.eq_iff a b)
/-- where a grammar's parts lie -/
structure GS where
  np : Option Addr
  nc : Nat
  tp : Option Addr
  tc : Nat
  rp : Option Addr
  rc : Nat
abbrev gC (x : GS) (g : Gr) : List Value := [.slice x.np g.names.length x.nc, .int .i64 g.terms, .slice x.tp g.tokens.length x.tc, .slice x.rp g.rules.length x.rc, .int .i64 g.start]
structure Gm (w : World) (x : GS) (g : Gr) : Prop where
  names : Rv w x.np x.nc (g.names.map sv)
  tokens : Rv w x.tp x.tc (g.tokens.map iv)
  rules : Rr w x.rp x.rc g.rules
theorem Gm.keep {w w1 : World} {x : GS} {g : Gr} (h : Gm w x g) (hk : Keep NoB w w1) : Gm w1 x g :=
  ⟨h.names.keep hk (fun u hu b e => by obtain ⟨y, _, rfl⟩ := List.mem_map.1 hu; cases e), h.tokens.keep hk (fun u hu b e => by obtain ⟨y, _, rfl⟩ := List.mem_map.1 hu; cases e), h.rules.keep hk⟩
theorem Gm.below {w w1 : World} {x : GS} {g : Gr} (h : Gm w x g) (hb : Below w.heap.size w w1) : Gm w1 x g := h.keep (keep_below hb)
theorem St.grown1 {w w0 : World} {b : Nat} {own : List Blk} {w4 : World} {ds : List Deferred} (h : St ⟨w, ⟨[b], ds⟩, w0, own⟩ w4) : w.grownBy w4 (some b) :=
  ⟨h.os, h.tape, h.output, Nat.le_trans h.sizeW h.size0, fun k hk hne => h.oldW k hk (by simp; intro e; exact hne (congrArg some e))⟩
theorem getE {α : Type} {l : List α} {i : Nat} (h : i < l.length) : ∃ x, l[i]? = some x := ⟨_, List.getElem?_eq_getElem h⟩
theorem map_get {α β : Type} {f : α → β} {l : List α} {i : Nat} {x : α} (h : l[i]? = some x) : (l.map f)[i]? = some (f x) := by rw [List.getElem?_map, h]; rfl
/-- own blocks that hold what they held: nothing has turned -/
theorem still {W w3 w9 : World} {gs gs' : Gx} {own : List Blk} (h3 : St ⟨W, gs, w3, own⟩ w3) (h9 : St ⟨W, gs', w3, own⟩ w9) (U : Value → Prop) : Keep U w3 w9 := fun g k u _ h => cell_same (by
  by_cases e : ∃ x ∈ own, x.b = g
  · obtain ⟨x, hx, rfl⟩ := e
    rw [h9.blk x hx, h3.blk x hx]
  · exact h9.old0 g (cell_lt h) (fun x hx e2 => e ⟨x, hx, e2⟩)) h
theorem Rv.still {W w3 w9 : World} {gs gs' : Gx} {own : List Blk} {p : Option Addr} {c : Nat} {cs : List Value} (h : Rv w3 p c cs) (h3 : St ⟨W, gs, w3, own⟩ w3) (h9 : St ⟨W, gs', w3, own⟩ w9) : Rv w9 p c cs := h.keep (Cm.still h3 h9 (fun _ => True)) (fun _ _ => trivial)
/-! rows that a call has made, several at once -/
theorem rv_ofn {w : World} {base e n : Nat} {v : Value} {cs : List Value} (h : w.ownsRow base e 1 v n cs) : ∃ p c, v = .slice p n c ∧ Rv w p c cs := by
  obtain ⟨p, c, hv, hr⟩ := rv_of h
  exact ⟨p, c, by rw [hv, h.1, Nat.mul_one], hr⟩
section
variable {W w0 : World} {gs : Gx} {own : List Blk}
abbrev RowOf := Nat × Value × List Value
/-- rows of the call's own, none in another's block -/
structure Hp (S : Sx) (L : List RowOf) : Prop where
  row : ∀ y ∈ L, Rw S y.1 1 y.2.1 y.2.2.length y.2.2
  ap : L.Pairwise (fun x y => ∀ b, x.2.1.ownBlock = some b → y.2.1.ownBlock ≠ some b)
theorem Hp.nil (S : Sx) : Hp S [] := ⟨fun y hy => (by cases hy), List.Pairwise.nil⟩
theorem Hp.head {S : Sx} {y : RowOf} {L : List RowOf} (h : Hp S (y :: L)) : Rw S y.1 1 y.2.1 y.2.2.length y.2.2 := h.row y (by simp)
theorem Hp.ids {L : List RowOf} {gs' : Gx} {own' : List Blk} (h : Hp ⟨W, gs, w0, own⟩ L) (hi : own'.map (·.b) = own.map (·.b)) : Hp ⟨W, gs', w0, own'⟩ L := ⟨fun y hy => (h.row y hy).ids hi, h.ap⟩
theorem Hp.beside {L : List RowOf} {b : Nat} {o : Obj} (h : Hp ⟨W, gs, w0, own⟩ L) (hb : w0.heap.size ≤ b) : Hp ⟨W, gs, w0, ⟨b, o⟩ :: own⟩ L := ⟨fun y hy => (h.row y hy).cons (x := ⟨b, o⟩) hb, h.ap⟩
theorem Hp.sub {L : List RowOf} {own2 : List Blk} (h : Hp ⟨W, gs, w0, own⟩ L) (hs : ∀ x ∈ own2, ∃ y ∈ own, y.b = x.b) : Hp ⟨W, gs, w0, own2⟩ L := ⟨fun y hy => ⟨(h.row y hy).own, fun z hz e => by
  obtain ⟨x, hx, hb⟩ := hs z hz
  exact (h.row y hy).off x hx (by rw [e, hb])⟩, h.ap⟩
theorem Hp.call {L : List RowOf} {w1 : World} {W' : World} {gs' : Gx} {own' : List Blk} (h : Hp ⟨W, gs, w0, own⟩ L) (hm : Moved ⟨W', gs', w0, own'⟩ none w1) (hi : own'.map (·.b) = own.map (·.b)) : Hp ⟨W, gs, w1, own⟩ L := ⟨fun y hy => (h.row y hy).call hm hi, h.ap⟩
theorem Hp.at {L : List RowOf} {w : World} (h : Hp ⟨W, gs, w0, own⟩ L) (hs : St ⟨W, gs, w0, own⟩ w) : Hp ⟨W, gs, w, own⟩ L := ⟨fun y hy => ⟨(h.row y hy).at hs, (h.row y hy).off⟩, h.ap⟩
theorem Hp.ends {L : List RowOf} {w : World} {gs' : Gx} {own' : List Blk} (h : Hp ⟨W, gs, w0, own⟩ L) (hs : St ⟨W, gs', w0, own'⟩ w) (hi : own'.map (·.b) = own.map (·.b)) : Hp ⟨W, gs', w, own'⟩ L := (h.ids hi).at hs
/-- the first one has been written, or written anew -/
theorem Hp.first {L : List RowOf} {e : Nat} {v v' : Value} {xs xs' : List Value} {w1 : World} {own2 own3 : List Blk} (h : Hp ⟨W, gs, w0, own⟩ ((e, v, xs) :: L)) (hm : Moved ⟨W, gs, w0, own3⟩ v.ownBlock w1) (hi : ∀ x ∈ own3, (∃ y ∈ own, y.b = x.b) ∨ w0.heap.size ≤ x.b) (hR : Rw ⟨W, gs, w1, own2⟩ e 1 v' xs'.length xs') (ho : v'.ownBlock = v.ownBlock ∨ ∃ g, v'.ownBlock = some g ∧ w0.heap.size ≤ g) (hs : ∀ x ∈ own2, ∃ y ∈ own, y.b = x.b) : Hp ⟨W, gs, w1, own2⟩ ((e, v', xs') :: L) := by
  obtain ⟨hap1, hap2⟩ := List.pairwise_cons.1 h.ap
  refine ⟨fun y hy => ?_, List.pairwise_cons.2 ⟨fun y hy b hb e2 => ?_, hap2⟩⟩
  · rcases List.mem_cons.1 hy with rfl | hy
    · exact hR
    · have hr := h.row y (List.mem_cons_of_mem _ hy)
      refine ⟨own_moved hr.own fun b hb => hm.block b (hr.lt b hb).2 (fun x hx e3 => ?_) (fun e3 => hap1 y hy b e3.symm hb), fun z hz e3 => ?_⟩
      · rcases hi x hx with ⟨z, hz, e4⟩ | h4
        · exact hr.off z hz (by rw [hb, e4, e3])
        · have := (hr.lt b hb).2
          simp at this h4; omega
      · obtain ⟨x, hx, e4⟩ := hs z hz
        exact hr.off x hx (by rw [e3, e4])
  · rcases ho with ho | ⟨g, ho, hg⟩
    · exact hap1 y hy b (ho ▸ hb) e2
    · have := ((h.row y (List.mem_cons_of_mem _ hy)).lt b e2).2
      rw [ho] at hb
      cases hb
      simp at this; omega
theorem Hp.swap {S : Sx} {x y : RowOf} {L : List RowOf} (h : Hp S (x :: y :: L)) : Hp S (y :: x :: L) := by
  obtain ⟨h1, h2⟩ := List.pairwise_cons.1 h.ap
  obtain ⟨h3, h4⟩ := List.pairwise_cons.1 h2
  refine ⟨fun z hz => h.row z (by simp at hz ⊢; rcases hz with rfl | rfl | hz <;> simp [*]), List.pairwise_cons.2 ⟨fun z hz b hb e => ?_, List.pairwise_cons.2 ⟨fun z hz => h1 z (by simp [hz]), h4⟩⟩⟩
  rcases List.mem_cons.1 hz with rfl | hz
  · exact h1 y (by simp) b e hb
  · exact h3 z hz b hb e
theorem Hp.perm {S : Sx} {L L' : List RowOf} (h : Hp S L) (hp : L.Perm L') : Hp S L' :=
  ⟨fun y hy => h.row y (hp.mem_iff.2 hy), (hp.pairwise_iff (fun {a b} h1 c hc e => h1 c e hc)).1 h.ap⟩
theorem Hp.third {S : Sx} {x y z : RowOf} {L : List RowOf} (h : Hp S (x :: y :: z :: L)) : Hp S (z :: x :: y :: L) :=
  h.perm (((List.Perm.swap z y L).cons x).trans (List.Perm.swap z x (y :: L)))
theorem Hp.toEnd {S : Sx} {x : RowOf} {A B : List RowOf} (h : Hp S (A ++ x :: B)) : Hp S (A ++ (B ++ [x])) :=
  h.perm (List.Perm.append_left A (List.perm_append_singleton x B).symm)
theorem rw_snoc {S : Sx} {e : Nat} {v u : Value} {xs : List Value} (h : Rw S e 1 v (xs.length + 1) (xs ++ [u])) : Rw S e 1 v (xs ++ [u]).length (xs ++ [u]) := by
  rw [List.length_append]; exact h
theorem Hp.none_ {S : Sx} {L : List RowOf} (h : Hp S L) (e : Nat) : Hp S ((e, .slice none 0 0, []) :: L) :=
  ⟨fun y hy => by
    rcases List.mem_cons.1 hy with rfl | hy
    · exact Rw.nil _ _ _
    · exact h.row y hy, List.pairwise_cons.2 ⟨fun y _ b hb => by simp [Value.ownBlock] at hb, h.ap⟩⟩
/-- a row that has just been made -/
theorem rw_fresh {w2 w3 : World} {e n : Nat} {v : Value} {xs : List Value} {gs' : Gx} (hs : St ⟨W, gs, w0, own⟩ w2) (h : w3.ownsRow w2.heap.size e 1 v n xs) : Rw ⟨W, gs', w3, own⟩ e 1 v n xs := by
  refine ⟨?_, fun z hz e2 => ?_⟩
  · obtain ⟨h1, h2⟩ := h
    refine ⟨h1, ?_⟩
    rcases h2 with h2 | ⟨g, cap, cur, hv, hg, r⟩
    · exact .inl h2
    · have h5 := hs.sizeW; have h6 := hs.size0
      exact .inr ⟨g, cap, cur, hv, by simp at h5 h6 ⊢; omega, r⟩
  · have h3 := (World.ownsRow.lt h _ e2).1
    have h4 := hs.lt hz
    omega
theorem Hp.new {w2 w3 : World} {L : List RowOf} {e n : Nat} {v : Value} {xs : List Value} (h : Hp ⟨W, gs, w0, own⟩ L) (hs : St ⟨W, gs, w0, own⟩ w2) (hm : Moved ⟨W, gs, w0, own⟩ none w3) (hv : w3.ownsRow w2.heap.size e 1 v n xs) : Hp ⟨W, gs, w3, own⟩ ((e, v, xs) :: L) := by
  have hn : n = xs.length := by have := hv.1; omega
  subst hn
  refine ⟨fun y hy => ?_, List.pairwise_cons.2 ⟨fun y hy b hb e2 => ?_, h.ap⟩⟩
  · rcases List.mem_cons.1 hy with rfl | hy
    · exact rw_fresh hs hv
    · exact (h.call hm rfl).row y hy
  · have h1 := (World.ownsRow.lt hv b hb).1
    have h2 := ((h.row y hy).lt b e2).2
    have h3 := hs.size0
    simp at h2 h3; omega
end
end Go.Proofs.Ytlppkbfkajionaa.Cm
