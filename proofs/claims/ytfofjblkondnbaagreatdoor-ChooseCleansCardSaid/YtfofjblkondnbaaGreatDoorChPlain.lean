/- Plain laws of paths and of choices among them: lists of bytes alone, no program in sight. -/
namespace Go.Proofs.YtfofjblkondnbaaGreatDoor.Ch

abbrev Bs := List UInt8

/-! ### cutting at a byte -/
def splitC (c : UInt8) : Bs → List Bs
  | [] => [[]]
  | x :: xs => if x = c then [] :: splitC c xs else
    match splitC c xs with
    | [] => [[x]]
    | p :: ps => (x :: p) :: ps

theorem splitC_ne (c : UInt8) : ∀ s, splitC c s ≠ []
  | [] => by simp [splitC]
  | x :: xs => by
    unfold splitC
    split
    · simp
    · split <;> simp

def joinC (c : UInt8) : List Bs → Bs
  | [] => []
  | [p] => p
  | p :: q :: ps => p ++ c :: joinC c (q :: ps)

theorem joinC_cons (c : UInt8) (p : Bs) {ps : List Bs} (h : ps ≠ []) : joinC c (p :: ps) = p ++ c :: joinC c ps := by
  cases ps with
  | nil => exact absurd rfl h
  | cons q ps => rfl

theorem join_split (c : UInt8) : ∀ s, joinC c (splitC c s) = s
  | [] => rfl
  | x :: xs => by
    unfold splitC
    have ih := join_split c xs
    have hn := splitC_ne c xs
    split
    · rename_i h; rw [joinC_cons c [] hn, ih, h]; rfl
    · split
      · rename_i h; exact absurd h hn
      · rename_i p ps h
        rw [h] at ih
        cases ps with
        | nil => simp only [joinC] at ih ⊢; rw [ih]
        | cons q ps => simp only [joinC] at ih ⊢; rw [← ih]; rfl

theorem splitC_free (c : UInt8) : ∀ (s : Bs), c ∉ s → splitC c s = [s]
  | [], _ => rfl
  | x :: xs, h => by
    unfold splitC
    have hx : ¬ x = c := fun e => h (by simp [e])
    rw [if_neg hx, splitC_free c xs (fun hm => h (by simp [hm]))]

theorem splitC_append (c : UInt8) (y : Bs) : ∀ x, splitC c (x ++ c :: y) = splitC c x ++ splitC c y
  | [] => by simp [splitC]
  | a :: x => by
    have ih := splitC_append c y x
    simp only [List.cons_append, splitC]
    split
    · rw [ih]; rfl
    · rw [ih]
      cases h : splitC c x with
      | nil => exact absurd h (splitC_ne c x)
      | cons p ps => rfl

theorem splitC_join (c : UInt8) : ∀ (l : List Bs), l ≠ [] → (∀ p ∈ l, c ∉ p) → splitC c (joinC c l) = l
  | [], h, _ => absurd rfl h
  | [p], _, h => splitC_free c p (h p (by simp))
  | p :: q :: ps, _, h => by
    have ih := splitC_join c (q :: ps) (by simp) (fun x hx => h x (by simp at hx ⊢; exact .inr hx))
    rw [joinC_cons c p (by simp), splitC_append, ih, splitC_free c p (h p (by simp))]
    rfl

theorem splitC_free_mem (c : UInt8) : ∀ (s : Bs), ∀ p ∈ splitC c s, c ∉ p
  | [], p, h => by simp [splitC] at h; simp [h]
  | x :: xs, p, h => by
    have ih := splitC_free_mem c xs
    unfold splitC at h
    split at h
    · rcases List.mem_cons.1 h with rfl | h
      · simp
      · exact ih p h
    · rename_i hx
      split at h
      · rename_i e; exact absurd e (splitC_ne c xs)
      · rename_i q qs e
        rw [e] at ih
        rcases List.mem_cons.1 h with rfl | h
        · have := ih q (by simp)
          simp only [List.mem_cons, not_or]
          exact ⟨fun e => hx e.symm, this⟩
        · exact ih p (by simp [h])

/-- What lies ahead of the first c, and behind it. -/
def cutC (c : UInt8) : Bs → Bs × Option Bs
  | [] => ([], none)
  | x :: xs => if x = c then ([], some xs) else ((x :: (cutC c xs).1), (cutC c xs).2)

/-! ### names and numbers -/
def nameCh (c : UInt8) : Bool :=
  decide (97 ≤ c.toNat) && decide (c.toNat ≤ 122) || decide (65 ≤ c.toNat) && decide (c.toNat ≤ 90) || decide (48 ≤ c.toNat) && decide (c.toNat ≤ 57) || c == 46 || c == 95 || c == 45
def nameOk (s : Bs) : Bool := decide (1 ≤ s.length) && decide (s.length ≤ 12) && s != [46] && s != [46, 46] && s.all nameCh

def isDig (c : UInt8) : Bool := decide (48 ≤ c.toNat) && decide (c.toNat ≤ 57)
def decVal (s : Bs) : Nat := s.foldl (fun n c => 10 * n + (c.toNat - 48)) 0
/-- a number's digits, as they are written, below 2^32 -/
def numOk (s : Bs) : Bool := !s.isEmpty && s.all isDig && (decide (s.length = 1) || s.head? != some 48) && decide (decVal s < 4294967296)

def lostName : Bs := [108, 111, 115, 116, 43, 102, 111, 117, 110, 100]

def tagOk (tag : Bs) : Bool :=
  match cutC 46 tag with
  | (_, none) => false
  | (rep, some seq) => numOk rep && numOk seq

def partOk (s : Bs) : Bool :=
  s == lostName ||
    match cutC 126 s with
    | (name, none) => nameOk name
    | (name, some tag) => nameOk name && tagOk tag

def pathOf (s : Bs) : Option (List Bs) :=
  if 120 < s.length then none else
  match s with
  | [] => none
  | x :: r => if x = 47 then (if r = [] then some [] else if (splitC 47 r).length ≤ 10 ∧ (splitC 47 r).all partOk = true then some (splitC 47 r) else none) else none

def isPath (s : Bs) : Bool := (pathOf s).isSome

def joinP (l : List Bs) : Bs := 47 :: joinC 47 l

def within (s top : Bs) : Bool :=
  match pathOf s, pathOf top with
  | some a, some b => b.isPrefixOf a
  | _, _ => false

def has (l : List Bs) (at_ : Bs) : Bool := l.isEmpty || l.any fun s => within at_ s
def leads (l : List Bs) (at_ : Bs) : Bool := has l at_ || l.any fun s => within s at_

/-! ### parts hold no slash -/
theorem nameCh_slash : nameCh 47 = false := by decide
theorem nameOk_slash {s : Bs} (h : nameOk s = true) : (47 : UInt8) ∉ s := by
  intro hm
  simp only [nameOk, Bool.and_eq_true, List.all_eq_true] at h
  have := h.2 _ hm
  rw [nameCh_slash] at this; cases this
theorem isDig_slash : isDig 47 = false := by decide
theorem numOk_slash {s : Bs} (h : numOk s = true) : (47 : UInt8) ∉ s := by
  intro hm
  simp only [numOk, Bool.and_eq_true, List.all_eq_true] at h
  have := h.1.1.2 _ hm
  rw [isDig_slash] at this; cases this
theorem cutC_none (c : UInt8) : ∀ (s : Bs), (cutC c s).2 = none → (cutC c s).1 = s
  | [], _ => rfl
  | x :: xs, h => by
    unfold cutC at h ⊢
    split
    · rename_i e; simp [e] at h
    · rename_i e; simp only [if_neg e] at h; rw [cutC_none c xs h]
theorem cutC_some (c : UInt8) : ∀ (s t : Bs), (cutC c s).2 = some t → s = (cutC c s).1 ++ c :: t
  | [], _, h => by simp [cutC] at h
  | x :: xs, t, h => by
    unfold cutC at h ⊢
    split
    · rename_i e; simp [e] at h; simp [e, h]
    · rename_i e
      simp only [if_neg e] at h
      have ih := cutC_some c xs t h
      simp only [List.cons_append]
      rw [← ih]
theorem cutC_free (c : UInt8) : ∀ (s : Bs), c ∉ (cutC c s).1
  | [] => by simp [cutC]
  | x :: xs => by
    unfold cutC
    split
    · simp
    · rename_i e
      simp only [List.mem_cons, not_or]
      exact ⟨fun h => e h.symm, cutC_free c xs⟩

theorem partOk_slash {s : Bs} (h : partOk s = true) : (47 : UInt8) ∉ s := by
  unfold partOk at h
  rcases Bool.or_eq_true_iff.1 h with h | h
  · have : s = lostName := by simpa using h
    subst this; decide
  · cases e : cutC 126 s with
    | mk name o =>
      rw [e] at h
      cases o with
      | none =>
        have := cutC_none 126 s (by rw [e])
        rw [e] at this
        simp only at this h
        rw [← this]; exact nameOk_slash h
      | some tag =>
        have hs := cutC_some 126 s tag (by rw [e])
        rw [e] at hs
        simp only [Bool.and_eq_true] at h hs
        obtain ⟨h1, h2⟩ := h
        unfold tagOk at h2
        cases e2 : cutC 46 tag with
        | mk rep o2 =>
          rw [e2] at h2
          cases o2 with
          | none => simp at h2
          | some seq =>
            have ht := cutC_some 46 tag seq (by rw [e2])
            rw [e2] at ht
            simp only [Bool.and_eq_true] at h2 ht
            rw [hs, ht]
            simp only [List.mem_append, List.mem_cons, not_or]
            exact ⟨nameOk_slash h1, by decide, numOk_slash h2.1, by decide, numOk_slash h2.2⟩

theorem partOk_nil : partOk [] = false := by decide

/-! ### paths -/
theorem pathOf_some {s : Bs} {l : List Bs} (h : pathOf s = some l) :
    s.length ≤ 120 ∧ s = joinP l ∧ l.length ≤ 10 ∧ ∀ p ∈ l, partOk p = true := by
  unfold pathOf at h
  split at h
  · cases h
  · rename_i hl
    split at h
    · cases h
    · rename_i x r
      split at h
      · rename_i e
        subst e
        split at h
        · rename_i e; subst e; cases h; exact ⟨by omega, rfl, by simp, by simp⟩
        · split at h
          · rename_i hc
            cases h
            refine ⟨by omega, ?_, hc.1, fun p hp => List.all_eq_true.1 hc.2 p hp⟩
            simp [joinP, join_split]
          · cases h
      · cases h

theorem joinC_ne {l : List Bs} (h : l ≠ []) (hp : ∀ p ∈ l, partOk p = true) : joinC 47 l ≠ [] := by
  match l, h with
  | [p], _ =>
    intro e; simp only [joinC] at e; have := hp p (by simp); rw [e, partOk_nil] at this; cases this
  | p :: q :: ps, _ => intro e; simp [joinC] at e

theorem pathOf_joinP {l : List Bs} (hn : l.length ≤ 10) (hp : ∀ p ∈ l, partOk p = true) (hl : (joinP l).length ≤ 120) : pathOf (joinP l) = some l := by
  unfold pathOf
  rw [if_neg (by omega)]
  simp only [joinP, if_true]
  cases l with
  | nil => rfl
  | cons p ps =>
    have hne := joinC_ne (l := p :: ps) (by simp) hp
    have hs := splitC_join 47 (p :: ps) (by simp) (fun q hq => partOk_slash (hp q hq))
    rw [if_neg hne, hs, if_pos ⟨hn, List.all_eq_true.2 hp⟩]

theorem pathOf_inj {s t : Bs} {l : List Bs} (h : pathOf s = some l) (h' : pathOf t = some l) : s = t := by
  rw [(pathOf_some h).2.1, (pathOf_some h').2.1]

theorem joinC_take_le (c : UInt8) : ∀ (l : List Bs) (k : Nat), (joinC c (l.take k)).length ≤ (joinC c l).length
  | [], k => by simp
  | p :: ps, 0 => by simp [joinC]
  | [p], k + 1 => by simp
  | p :: q :: ps, k + 1 => by
    have ih := joinC_take_le c (q :: ps) k
    cases k with
    | zero => simp [joinC]
    | succ k =>
      simp only [List.take_succ_cons, joinC, List.length_append, List.length_cons] at ih ⊢
      omega

theorem pathOf_take {s : Bs} {l : List Bs} (h : pathOf s = some l) (k : Nat) : pathOf (joinP (l.take k)) = some (l.take k) := by
  obtain ⟨h1, h2, h3, h4⟩ := pathOf_some h
  refine pathOf_joinP ?_ (fun p hp => h4 p (List.mem_of_mem_take hp)) ?_
  · rw [List.length_take]; omega
  · have := joinC_take_le 47 l k
    rw [h2] at h1
    simp only [joinP, List.length_cons] at h1 ⊢
    omega

theorem pathOf_below {s t : Bs} {l m : List Bs} (h : pathOf s = some l) (h' : pathOf (s ++ 47 :: t) = some m) : l <+: m := by
  obtain ⟨_, hs, _, hp⟩ := pathOf_some h
  cases l with
  | nil => exact List.nil_prefix
  | cons p ps =>
    have hne := joinC_ne (l := p :: ps) (by simp) hp
    have hsp := splitC_join 47 (p :: ps) (by simp) (fun q hq => partOk_slash (hp q hq))
    rw [hs] at h'
    unfold pathOf at h'
    split at h'
    · cases h'
    · simp only [joinP, List.cons_append, if_true] at h'
      rw [if_neg (by simp), splitC_append, hsp] at h'
      split at h'
      · cases h'; exact List.prefix_append _ _
      · cases h'

theorem within_iff {s t : Bs} : within s t = true ↔ ∃ a b, pathOf s = some a ∧ pathOf t = some b ∧ b <+: a := by
  unfold within
  cases h : pathOf s with
  | none => simp
  | some a =>
    cases h' : pathOf t with
    | none => simp
    | some b => simp

theorem within_refl {s : Bs} (h : isPath s = true) : within s s = true := by
  obtain ⟨a, ha⟩ := Option.isSome_iff_exists.1 h
  exact within_iff.2 ⟨a, a, ha, ha, List.prefix_refl _⟩
theorem within_trans {s t u : Bs} (h : within s t = true) (h' : within t u = true) : within s u = true := by
  obtain ⟨a, b, ha, hb, hab⟩ := within_iff.1 h
  obtain ⟨b', c, hb', hc, hbc⟩ := within_iff.1 h'
  rw [hb] at hb'; cases hb'
  exact within_iff.2 ⟨a, c, ha, hc, hbc.trans hab⟩
theorem within_antisymm {s t : Bs} (h : within s t = true) (h' : within t s = true) : s = t := by
  obtain ⟨a, b, ha, hb, hab⟩ := within_iff.1 h
  obtain ⟨b', a', hb', ha', hba⟩ := within_iff.1 h'
  rw [hb] at hb'; cases hb'
  rw [ha] at ha'; cases ha'
  have : a = b := hba.eq_of_length (by have := hab.length_le; have := hba.length_le; omega)
  subst this
  exact pathOf_inj ha hb

/-! ### cleaned paths -/
/-- what is not below another one of a list -/
def top (l : List Bs) (s : Bs) : Bool := l.all fun t => t == s || !within s t

/-- every path of a list lies in a top one of it -/
theorem top_above (l : List Bs) : ∀ (n : Nat) (s : Bs) (a : List Bs), pathOf s = some a → a.length ≤ n → s ∈ l → ∃ t, t ∈ l ∧ top l t = true ∧ within s t = true
  | n, s, a, ha, hn, hs => by
    by_cases ht : top l s = true
    · exact ⟨s, hs, ht, within_refl (by unfold isPath; rw [ha]; rfl)⟩
    · have ht' : ∃ t, t ∈ l ∧ ¬ (t == s || !within s t) = true := by
        have := ht
        simp only [top, List.all_eq_true, Classical.not_forall] at this
        obtain ⟨t, h1, h2⟩ := this
        exact ⟨t, h1, h2⟩
      obtain ⟨t, htl, hw⟩ := ht'
      have hne : t ≠ s := fun e => hw (by simp [e])
      have hws : within s t = true := by
        cases h : within s t with
        | true => rfl
        | false => exact absurd (by simp [h]) hw
      obtain ⟨a', b, ha', hb, hab⟩ := within_iff.1 hws
      rw [ha] at ha'; cases ha'
      have hlt : b.length < a.length := by
        have := hab.length_le
        rcases Nat.lt_or_ge b.length a.length with h | h
        · exact h
        · have : b = a := hab.eq_of_length (by omega)
          subst this
          exact absurd (pathOf_inj hb ha) hne
      cases n with
      | zero => omega
      | succ n =>
        obtain ⟨u, h1, h2, h3⟩ := top_above l n t b hb (by omega) htl
        exact ⟨u, h1, h2, within_trans hws h3⟩

/-- out is l cleaned -/
structure Cleaned (l out : List Bs) : Prop where
  sorted : out.Pairwise (· < ·)
  mem : ∀ s, s ∈ out ↔ s ∈ l ∧ top l s = true

theorem sorted_ext {a b : List Bs} (ha : a.Pairwise (· < ·)) (hb : b.Pairwise (· < ·)) (h : ∀ s, s ∈ a ↔ s ∈ b) : a = b := by
  induction a generalizing b with
  | nil =>
    cases b with
    | nil => rfl
    | cons y b => have := (h y).2 (by simp); simp at this
  | cons x a ih =>
    cases b with
    | nil => have := (h x).1 (by simp); simp at this
    | cons y b =>
      rw [List.pairwise_cons] at ha hb
      have hxy : x = y := by
        have h1 := (h x).1 (by simp)
        have h2 := (h y).2 (by simp)
        rcases List.mem_cons.1 h1 with e | h1
        · exact e
        · rcases List.mem_cons.1 h2 with e | h2
          · exact e.symm
          · exact absurd (List.lt_trans (ha.1 y h2) (hb.1 x h1)) (List.lt_irrefl _)
      subst hxy
      congr 1
      refine ih ha.2 hb.2 fun s => ⟨fun hs => ?_, fun hs => ?_⟩
      · rcases List.mem_cons.1 ((h s).1 (by simp [hs])) with e | h'
        · exact absurd (e ▸ ha.1 s hs) (List.lt_irrefl _)
        · exact h'
      · rcases List.mem_cons.1 ((h s).2 (by simp [hs])) with e | h'
        · exact absurd (e ▸ hb.1 s hs) (List.lt_irrefl _)
        · exact h'

theorem Cleaned.unique {l a b : List Bs} (ha : Cleaned l a) (hb : Cleaned l b) : a = b :=
  sorted_ext ha.sorted hb.sorted fun s => (ha.mem s).trans (hb.mem s).symm

theorem Cleaned.above {l out : List Bs} (h : Cleaned l out) (hp : ∀ s ∈ l, isPath s = true) {s : Bs} (hs : s ∈ l) : ∃ t, t ∈ out ∧ within s t = true := by
  obtain ⟨a, ha⟩ := Option.isSome_iff_exists.1 (hp s hs)
  obtain ⟨t, h1, h2, h3⟩ := top_above l a.length s a ha (Nat.le_refl _) hs
  exact ⟨t, (h.mem t).2 ⟨h1, h2⟩, h3⟩

theorem Cleaned.empty {l out : List Bs} (h : Cleaned l out) (hp : ∀ s ∈ l, isPath s = true) : out.isEmpty = l.isEmpty := by
  cases l with
  | nil =>
    cases out with
    | nil => rfl
    | cons x out => have := (h.mem x).1 (by simp); simp at this
  | cons y l =>
    obtain ⟨t, ht, _⟩ := h.above hp (s := y) (by simp)
    cases out with
    | nil => simp at ht
    | cons x out => rfl

theorem Cleaned.has {l out : List Bs} (h : Cleaned l out) (hp : ∀ s ∈ l, isPath s = true) (at_ : Bs) : has out at_ = has l at_ := by
  unfold Ch.has
  rw [h.empty hp]
  congr 1
  rw [Bool.eq_iff_iff]
  simp only [List.any_eq_true]
  constructor
  · rintro ⟨s, hs, hw⟩; exact ⟨s, ((h.mem s).1 hs).1, hw⟩
  · rintro ⟨s, hs, hw⟩
    obtain ⟨t, ht, hst⟩ := h.above hp hs
    exact ⟨t, ht, within_trans hw hst⟩

theorem Cleaned.leads {l out : List Bs} (h : Cleaned l out) (hp : ∀ s ∈ l, isPath s = true) (at_ : Bs) : leads out at_ = leads l at_ := by
  rw [Bool.eq_iff_iff]
  unfold Ch.leads
  rw [h.has hp]
  simp only [Bool.or_eq_true, List.any_eq_true]
  constructor
  · rintro (hh | ⟨s, hs, hw⟩)
    · exact .inl hh
    · exact .inr ⟨s, ((h.mem s).1 hs).1, hw⟩
  · rintro (hh | ⟨s, hs, hw⟩)
    · exact .inl hh
    · obtain ⟨t, ht, hst⟩ := h.above hp hs
      obtain ⟨a, b, ha, hb, hab⟩ := within_iff.1 hw
      obtain ⟨a', c, ha', hc, hac⟩ := within_iff.1 hst
      rw [ha] at ha'; cases ha'
      rcases List.prefix_or_prefix_of_prefix hab hac with hbc | hcb
      · exact .inr ⟨t, ht, within_iff.2 ⟨c, b, hc, hb, hbc⟩⟩
      · refine .inl ?_
        rw [← h.has hp]
        unfold Ch.has
        simp only [Bool.or_eq_true, List.any_eq_true]
        exact .inr ⟨t, ht, within_iff.2 ⟨b, c, hb, hc, hcb⟩⟩

theorem has_below {l : List Bs} {s t : Bs} (h : has l s = true) (hp : isPath (s ++ 47 :: t) = true) : has l (s ++ 47 :: t) = true := by
  unfold has at h ⊢
  simp only [Bool.or_eq_true, List.any_eq_true] at h ⊢
  rcases h with h | ⟨u, hu, hw⟩
  · exact .inl h
  · refine .inr ⟨u, hu, ?_⟩
    obtain ⟨a, b, ha, hb, hab⟩ := within_iff.1 hw
    obtain ⟨m, hm⟩ := Option.isSome_iff_exists.1 hp
    exact within_iff.2 ⟨m, b, hm, hb, hab.trans (pathOf_below ha hm)⟩

theorem leads_invalid {l : List Bs} {s : Bs} (h : leads l s = true) (hs : pathOf s = none) : l = [] := by
  cases l with
  | nil => rfl
  | cons x l =>
    exfalso
    unfold leads has at h
    simp only [List.isEmpty_cons, Bool.false_or, Bool.or_eq_true, List.any_eq_true] at h
    rcases h with ⟨u, _, hw⟩ | ⟨u, _, hw⟩
    · obtain ⟨a, b, ha, _⟩ := within_iff.1 hw; rw [hs] at ha; cases ha
    · obtain ⟨a, b, _, hb, _⟩ := within_iff.1 hw; rw [hs] at hb; cases hb

theorem leads_up {l : List Bs} {s : Bs} {a : List Bs} (h : leads l s = true) (hs : pathOf s = some a) (k : Nat) : leads l (joinP (a.take k)) = true := by
  have hk := pathOf_take hs k
  unfold leads has at h ⊢
  simp only [Bool.or_eq_true, List.any_eq_true] at h ⊢
  rcases h with (h | ⟨u, hu, hw⟩) | ⟨u, hu, hw⟩
  · exact .inl (.inl h)
  · obtain ⟨a', b, ha', hb, hab⟩ := within_iff.1 hw
    rw [hs] at ha'; cases ha'
    rcases List.prefix_or_prefix_of_prefix (List.take_prefix k a) hab with h1 | h1
    · exact .inr ⟨u, hu, within_iff.2 ⟨b, a.take k, hb, hk, h1⟩⟩
    · exact .inl (.inr ⟨u, hu, within_iff.2 ⟨a.take k, b, hk, hb, h1⟩⟩)
  · obtain ⟨b, a', hb, ha', hab⟩ := within_iff.1 hw
    rw [hs] at ha'; cases ha'
    exact .inr ⟨u, hu, within_iff.2 ⟨b, a.take k, hb, hk, (List.take_prefix k a).trans hab⟩⟩

/-- A cleaned list, turned round and told twice, is cleaned to itself. -/
theorem Cleaned.again {l out m : List Bs} (h : Cleaned l out) (hm : ∀ s, s ∈ m ↔ s ∈ out) : Cleaned m out := by
  refine ⟨h.sorted, fun s => ?_⟩
  rw [hm]
  refine ⟨fun hs => ⟨hs, ?_⟩, fun hs => hs.1⟩
  have ht := ((h.mem s).1 hs).2
  unfold top at ht ⊢
  rw [List.all_eq_true] at ht ⊢
  intro t htm
  exact ht t (((h.mem t).1 ((hm t).1 htm)).1)

end Go.Proofs.YtfofjblkondnbaaGreatDoor.Ch
