/- Plain functions: a heap of entries, and where each one is. No program in sight. -/
import Init
namespace Go.Proofs.Ytfppfdejjifhdaa.Hp

structure E where
  id : Int
  key : Int
  deriving DecidableEq

instance : Inhabited E := ⟨⟨0, 0⟩⟩

/-- one comes ahead of another one -/
def before (e f : E) : Bool := decide (e.key < f.key ∨ (e.key = f.key ∧ e.id < f.id))
def le (e f : E) : Prop := e.key < f.key ∨ (e.key = f.key ∧ e.id ≤ f.id)

theorem before_yes {e f : E} (h : before e f = true) : le e f := by unfold before at h; unfold le; simp at h; omega
theorem before_no {e f : E} (h : before e f = false) : le f e := by unfold before at h; unfold le; simp at h; omega
theorem le_refl (e : E) : le e e := by unfold le; omega
theorem le_trans {a b c : E} (h : le a b) (g : le b c) : le a c := by unfold le at *; omega

structure Q where
  l : List E
  place : List Int

/-- an entry -/
def nth (l : List E) (i : Nat) : E := l.getD i default
/-- where an entry is: 1 the first -/
def pl (p : List Int) (i : Int) : Int := p.getD i.toNat 0

theorem nth_set_same (l : List E) (i : Nat) (e : E) (h : i < l.length) : nth (l.set i e) i = e := by simp [nth, List.getD, h]
theorem nth_set_other (l : List E) (i j : Nat) (e : E) (h : i ≠ j) : nth (l.set i e) j = nth l j := by simp [nth, List.getD, h]
theorem pl_set_same (p : List Int) (i : Int) (v : Int) (h : i.toNat < p.length) : pl (p.set i.toNat v) i = v := by simp [pl, List.getD, h]
theorem pl_set_other (p : List Int) (i j : Int) (v : Int) (h0 : 0 ≤ i) (h1 : 0 ≤ j) (h : i ≠ j) : pl (p.set i.toNat v) j = pl p j := by
  have : i.toNat ≠ j.toNat := by omega
  simp [pl, List.getD, this]

def lay (q : Q) (i : Nat) (e : E) : Q := ⟨q.l.set i e, q.place.set e.id.toNat ((i : Int) + 1)⟩

theorem lay_len (q : Q) (i : Nat) (e : E) : (lay q i e).l.length = q.l.length := by simp [lay]
theorem lay_plen (q : Q) (i : Nat) (e : E) : (lay q i e).place.length = q.place.length := by simp [lay]

/-- up, with an entry that is in the hand -/
def riseGo (e : E) : Nat → Q → Nat → Q
  | 0, q, i => lay q i e
  | f + 1, q, i => if 0 < i ∧ before e (nth q.l ((i - 1) / 2)) = true then riseGo e f (lay q i (nth q.l ((i - 1) / 2))) ((i - 1) / 2) else lay q i e
def rise (q : Q) (i : Nat) : Q := riseGo (nth q.l i) i q i

/-- the lesser kid -/
def kid (l : List E) (i : Nat) : Nat := if 2 * i + 2 < l.length ∧ before (nth l (2 * i + 2)) (nth l (2 * i + 1)) = true then 2 * i + 2 else 2 * i + 1
def sinkGo (e : E) : Nat → Q → Nat → Q
  | 0, q, i => lay q i e
  | f + 1, q, i => if kid q.l i < q.l.length ∧ before e (nth q.l (kid q.l i)) = false then sinkGo e f (lay q i (nth q.l (kid q.l i))) (kid q.l i) else lay q i e
def sink (q : Q) (i : Nat) : Q := sinkGo (nth q.l i) (q.l.length - i) q i

def put (q : Q) (id key : Int) : Q :=
  if pl q.place id = 0 then
    let q1 := sink (lay ⟨q.l ++ [⟨0, 0⟩], q.place⟩ q.l.length ⟨id, key⟩) q.l.length
    rise q1 (pl q1.place id - 1).toNat
  else
    let q1 := sink (lay q (pl q.place id - 1).toNat ⟨id, key⟩) (pl q.place id - 1).toNat
    rise q1 (pl q1.place id - 1).toNat

def drop (q : Q) (id : Int) : Q :=
  let i := (pl q.place id - 1).toNat
  let last := nth q.l (q.l.length - 1)
  let q0 : Q := ⟨q.l.take (q.l.length - 1), q.place.set id.toNat 0⟩
  if last.id = id then q0 else
    let q1 := sink (lay q0 i last) i
    rise q1 (pl q1.place last.id - 1).toNat

/-- each entry stands where its place says, and each place is an entry's -/
structure Good (n : Nat) (q : Q) : Prop where
  plen : q.place.length = n
  ids : ∀ i, i < q.l.length → 0 ≤ (nth q.l i).id ∧ (nth q.l i).id < n ∧ pl q.place (nth q.l i).id = (i : Int) + 1
  back : ∀ j : Int, 0 ≤ j → j < n → pl q.place j ≠ 0 → ∃ i, i < q.l.length ∧ (nth q.l i).id = j ∧ pl q.place j = (i : Int) + 1

/-- what is in: its key -/
def key (q : Q) (j : Int) : Option Int := if pl q.place j = 0 then none else some (nth q.l (pl q.place j - 1).toNat).key

theorem Good.inj {n : Nat} {q : Q} (h : Good n q) {i j : Nat} (hi : i < q.l.length) (hj : j < q.l.length) (e : (nth q.l i).id = (nth q.l j).id) : i = j := by
  have h1 := (h.ids i hi).2.2
  have h2 := (h.ids j hj).2.2
  rw [e] at h1
  omega

theorem Good.key_at {n : Nat} {q : Q} (h : Good n q) {i : Nat} (hi : i < q.l.length) : key q (nth q.l i).id = some (nth q.l i).key := by
  unfold key
  rw [(h.ids i hi).2.2, if_neg (by omega)]
  congr 3
  omega

theorem Good.key_some {n : Nat} {q : Q} (h : Good n q) {j k : Int} (h0 : 0 ≤ j) (h1 : j < n) (e : key q j = some k) : ∃ i, i < q.l.length ∧ nth q.l i = ⟨j, k⟩ ∧ pl q.place j = (i : Int) + 1 := by
  unfold key at e
  by_cases hp : pl q.place j = 0
  · rw [if_pos hp] at e; cases e
  · rw [if_neg hp] at e
    obtain ⟨i, hi, hid, hpi⟩ := h.back j h0 h1 hp
    refine ⟨i, hi, ?_, hpi⟩
    rw [hpi, show ((i : Int) + 1 - 1).toNat = i by omega] at e
    cases hn : nth q.l i with
    | mk a b =>
      rw [hn] at hid e
      simp only at hid e
      cases e
      rw [hid]

/-- an entry goes where another one is, which goes where it was -/
theorem Good.swap {n : Nat} {q : Q} {i j : Nat} {e : E} (h : Good n (lay q i e)) (hi : i < q.l.length) (hj : j < q.l.length) (hne : i ≠ j) :
    Good n (lay (lay q i (nth q.l j)) j e) ∧ ∀ x : Int, 0 ≤ x → x < n → key (lay (lay q i (nth q.l j)) j e) x = key (lay q i e) x := by
  obtain ⟨hp, h1, h2⟩ := h
  have hlen := lay_len q i e
  rw [hlen] at h1 h2
  have hpl : q.place.length = n := by rw [lay_plen] at hp; exact hp
  have ei : nth (lay q i e).l i = e := nth_set_same q.l i e hi
  have ej : nth (lay q i e).l j = nth q.l j := nth_set_other q.l i j e hne
  have ai := h1 i hi
  have aj := h1 j hj
  rw [ei] at ai
  rw [ej] at aj
  obtain ⟨p, hpq⟩ : ∃ p, nth q.l j = p := ⟨_, rfl⟩
  rw [hpq] at aj ej ⊢
  have hpe : p.id ≠ e.id := fun he => by rw [he] at aj; omega
  have lt_of : ∀ x : Int, 0 ≤ x → x < n → x.toNat < q.place.length := fun x a b => by omega
  -- the places
  have p_old : ∀ x : Int, 0 ≤ x → x ≠ e.id → pl (lay q i e).place x = pl q.place x := fun x a b => pl_set_other _ _ _ _ ai.1 a (fun c => b c.symm)
  have p_e : pl (lay (lay q i p) j e).place e.id = (j : Int) + 1 := pl_set_same _ _ _ (by rw [lay_plen]; exact lt_of _ ai.1 ai.2.1)
  have p_p : pl (lay (lay q i p) j e).place p.id = (i : Int) + 1 := by
    show pl ((lay q i p).place.set e.id.toNat _) p.id = _
    rw [pl_set_other _ _ _ _ ai.1 aj.1 (fun c => hpe c.symm)]
    exact pl_set_same _ _ _ (lt_of _ aj.1 aj.2.1)
  have p_x : ∀ x : Int, 0 ≤ x → x ≠ e.id → x ≠ p.id → pl (lay (lay q i p) j e).place x = pl q.place x := fun x a b c => by
    show pl ((lay q i p).place.set e.id.toNat _) x = _
    rw [pl_set_other _ _ _ _ ai.1 a (fun d => b d.symm)]
    exact pl_set_other _ _ _ _ aj.1 a (fun d => c d.symm)
  -- the entries
  have l_j : nth (lay (lay q i p) j e).l j = e := nth_set_same _ _ _ (by rw [lay_len]; exact hj)
  have l_i : nth (lay (lay q i p) j e).l i = p := by
    show nth ((lay q i p).l.set j e) i = p
    rw [nth_set_other _ _ _ _ (fun c => hne c.symm)]
    exact nth_set_same _ _ _ hi
  have l_x : ∀ k, k ≠ i → k ≠ j → nth (lay (lay q i p) j e).l k = nth q.l k := fun k a b => by
    show nth ((lay q i p).l.set j e) k = _
    rw [nth_set_other _ _ _ _ (fun c => b c.symm)]
    exact nth_set_other _ _ _ _ (fun c => a c.symm)
  have l_old : ∀ k, k ≠ i → nth (lay q i e).l k = nth q.l k := fun k a => nth_set_other _ _ _ _ (fun c => a c.symm)
  have good : Good n (lay (lay q i p) j e) := by
    refine ⟨by rw [lay_plen, lay_plen]; exact hpl, ?_, ?_⟩
    · intro k hk
      rw [lay_len, lay_len] at hk
      by_cases kj : k = j
      · subst kj; rw [l_j]; exact ⟨ai.1, ai.2.1, p_e⟩
      · by_cases ki : k = i
        · subst ki; rw [l_i]; exact ⟨aj.1, aj.2.1, p_p⟩
        · rw [l_x k ki kj]
          have ak := h1 k hk
          rw [l_old k ki] at ak
          have n1 : (nth q.l k).id ≠ e.id := fun he => by rw [he] at ak; omega
          have n2 : (nth q.l k).id ≠ p.id := fun he => by rw [he] at ak; omega
          refine ⟨ak.1, ak.2.1, ?_⟩
          rw [p_x _ ak.1 n1 n2, ← p_old _ ak.1 n1]
          exact ak.2.2
    · intro x x0 x1 hx
      rw [lay_len, lay_len]
      by_cases xe : x = e.id
      · subst xe; exact ⟨j, hj, by rw [l_j], p_e⟩
      · by_cases xp : x = p.id
        · subst xp; exact ⟨i, hi, by rw [l_i], p_p⟩
        · rw [p_x x x0 xe xp] at hx ⊢
          obtain ⟨k, hk, hid, hpk⟩ := h2 x x0 x1 (by rw [p_old x x0 xe]; exact hx)
          have ki : k ≠ i := fun c => by subst c; rw [ei] at hid; exact xe hid.symm
          have kj : k ≠ j := fun c => by subst c; rw [ej] at hid; exact xp hid.symm
          rw [l_old k ki] at hid
          exact ⟨k, hk, by rw [l_x k ki kj]; exact hid, by rw [← p_old x x0 xe]; exact hpk⟩
  refine ⟨good, fun x x0 x1 => ?_⟩
  unfold key
  by_cases xe : x = e.id
  · subst xe
    rw [p_e, ai.2.2, if_neg (by omega), if_neg (by omega), show ((j : Int) + 1 - 1).toNat = j by omega, show ((i : Int) + 1 - 1).toNat = i by omega, l_j, ei]
  · by_cases xp : x = p.id
    · subst xp
      rw [p_p, aj.2.2, if_neg (by omega), if_neg (by omega), show ((j : Int) + 1 - 1).toNat = j by omega, show ((i : Int) + 1 - 1).toNat = i by omega, l_i, ej]
    · rw [p_x x x0 xe xp, p_old x x0 xe]
      by_cases h0 : pl q.place x = 0
      · rw [if_pos h0, if_pos h0]
      · obtain ⟨k, hk, hid, hpk⟩ := h2 x x0 x1 (by rw [p_old x x0 xe]; exact h0)
        have ki : k ≠ i := fun c => by subst c; rw [ei] at hid; exact xe hid.symm
        have kj : k ≠ j := fun c => by subst c; rw [ej] at hid; exact xp hid.symm
        rw [p_old x x0 xe] at hpk
        rw [if_neg h0, if_neg h0, hpk, show ((k : Int) + 1 - 1).toNat = k by omega, l_x k ki kj, l_old k ki]

/-- the kids' order, but for one entry and those above and below it -/
def OrdBut (l : List E) (i : Nat) : Prop :=
  (∀ j, 0 < j → j < l.length → j ≠ i → (j - 1) / 2 ≠ i → le (nth l ((j - 1) / 2)) (nth l j)) ∧
  (∀ c, 0 < c → c < l.length → (c - 1) / 2 = i → 0 < i → le (nth l ((i - 1) / 2)) (nth l c))
/-- the kids' order -/
def Ord (l : List E) : Prop := ∀ j, 0 < j → j < l.length → le (nth l ((j - 1) / 2)) (nth l j)
/-- the order, but for one entry and the one above it -/
def OrdUp (l : List E) (i : Nat) : Prop := OrdBut l i ∧ ∀ c, 0 < c → c < l.length → (c - 1) / 2 = i → le (nth l i) (nth l c)

theorem ord_up {l : List E} {i : Nat} (h : OrdUp l i) (g : 0 < i → le (nth l ((i - 1) / 2)) (nth l i)) : Ord l := by
  intro j h0 hj
  by_cases e : j = i
  · subst e; exact g h0
  · by_cases f : (j - 1) / 2 = i
    · rw [f]; exact h.2 j h0 hj f
    · exact h.1.1 j h0 hj e f

theorem riseGo_good (e : E) (n : Nat) : ∀ (f : Nat) (q : Q) (i : Nat), i ≤ f → i < q.l.length → Good n (lay q i e) → OrdUp (lay q i e).l i →
    Good n (riseGo e f q i) ∧ Ord (riseGo e f q i).l ∧ (riseGo e f q i).l.length = q.l.length ∧ ∀ x : Int, 0 ≤ x → x < n → key (riseGo e f q i) x = key (lay q i e) x
  | 0, q, i, hf, hi, hg, ho => ⟨hg, ord_up ho (fun h => by omega), lay_len _ _ _, fun _ _ _ => rfl⟩
  | f + 1, q, i, hf, hi, hg, ho => by
    rw [riseGo]
    by_cases hc : 0 < i ∧ before e (nth q.l ((i - 1) / 2)) = true
    · rw [if_pos hc]
      obtain ⟨h0, hb⟩ := hc
      obtain ⟨p, hp⟩ : ∃ p, (i - 1) / 2 = p := ⟨_, rfl⟩
      have hpi : p < i := by omega
      rw [hp] at hb ⊢
      obtain ⟨g1, g2⟩ := hg.swap hi (by omega : p < q.l.length) (by omega)
      obtain ⟨u, hu⟩ : ∃ u, nth q.l p = u := ⟨_, rfl⟩
      rw [hu] at hb g1 g2 ⊢
      have old : ∀ k, k ≠ i → nth (lay q i e).l k = nth q.l k := fun k a => nth_set_other _ _ _ _ (fun c => a c.symm)
      have ni : nth (lay (lay q i u) p e).l i = u := by
        show nth ((lay q i u).l.set p e) i = u
        rw [nth_set_other _ _ _ _ (by omega)]
        exact nth_set_same _ _ _ hi
      have np : nth (lay (lay q i u) p e).l p = e := nth_set_same _ _ _ (by rw [lay_len]; omega)
      have nx : ∀ k, k ≠ i → k ≠ p → nth (lay (lay q i u) p e).l k = nth q.l k := fun k a b => by
        show nth ((lay q i u).l.set p e) k = _
        rw [nth_set_other _ _ _ _ (fun c => b c.symm)]
        exact nth_set_other _ _ _ _ (fun c => a c.symm)
      have hl1 : (lay q i e).l.length = q.l.length := lay_len _ _ _
      have hl2 : (lay (lay q i u) p e).l.length = q.l.length := by rw [lay_len, lay_len]
      obtain ⟨⟨o1, o2⟩, o3⟩ := ho
      rw [hl1] at o1 o2 o3
      have eu : le e u := before_yes hb
      have key1 : OrdUp (lay (lay q i u) p e).l p := by
        refine ⟨⟨?_, ?_⟩, ?_⟩
        · intro j j0 jl jp jpp
          rw [hl2] at jl
          by_cases ji : j = i
          · subst ji; exact absurd hp jpp
          · by_cases jpi : (j - 1) / 2 = i
            · rw [jpi, ni, nx j ji jp]
              have := o2 j j0 jl jpi h0
              rw [hp, old p (by omega), old j ji, hu] at this
              exact this
            · rw [nx _ jpi jpp, nx j ji jp]
              have := o1 j j0 jl ji jpi
              rw [old _ jpi, old j ji] at this
              exact this
        · intro c c0 cl cp p0
          rw [hl2] at cl
          have hpp : (p - 1) / 2 ≠ i := by omega
          have hpp2 : (p - 1) / 2 ≠ p := by omega
          rw [nx _ hpp hpp2]
          have up := o1 p p0 (by omega) (by omega) hpp
          rw [old _ hpp, old p (by omega), hu] at up
          by_cases ci : c = i
          · subst ci; rw [ni]; exact up
          · rw [nx c ci (by omega)]
            have := o1 c c0 cl ci (by omega)
            rw [cp, old p (by omega), old c ci, hu] at this
            exact le_trans up this
        · intro c c0 cl cp
          rw [hl2] at cl
          rw [np]
          by_cases ci : c = i
          · subst ci; rw [ni]; exact eu
          · rw [nx c ci (by omega)]
            have := o1 c c0 cl ci (by omega)
            rw [cp, old p (by omega), old c ci, hu] at this
            exact le_trans eu this
      obtain ⟨r1, r2, r3, r4⟩ := riseGo_good e n f (lay q i u) p (by omega) (by rw [lay_len]; omega) g1 key1
      exact ⟨r1, r2, by rw [r3, lay_len], fun x x0 x1 => by rw [r4 x x0 x1, g2 x x0 x1]⟩
    · rw [if_neg hc]
      refine ⟨hg, ord_up ho (fun h => ?_), lay_len _ _ _, fun _ _ _ => rfl⟩
      have hb : before e (nth q.l ((i - 1) / 2)) = false := by
        cases hb : before e (nth q.l ((i - 1) / 2)) with
        | false => rfl
        | true => exact absurd ⟨h, hb⟩ hc
      show le (nth (q.l.set i e) ((i - 1) / 2)) (nth (q.l.set i e) i)
      rw [nth_set_other _ _ _ _ (by omega), nth_set_same _ _ _ hi]
      exact before_no hb

theorem lay_same {n : Nat} {q : Q} {i : Nat} (h : Good n q) (hi : i < q.l.length) : lay q i (nth q.l i) = q := by
  obtain ⟨a, b, c⟩ := h.ids i hi
  have hpl := h.plen
  unfold lay
  have e1 : q.l.set i (nth q.l i) = q.l := by
    apply List.ext_getElem?
    intro k
    rw [List.getElem?_set]
    split
    · rename_i hk; subst hk; simp [nth, List.getD, hi]
    · rfl
  have e2 : q.place.set (nth q.l i).id.toNat ((i : Int) + 1) = q.place := by
    apply List.ext_getElem?
    intro k
    rw [List.getElem?_set]
    split
    · rename_i hk
      have hk2 : k < q.place.length := by omega
      rw [← c]
      unfold pl
      rw [hk]
      simp [List.getD, hk2]
    · rfl
  rw [e1, e2]

theorem rise_good {n : Nat} {q : Q} {i : Nat} (hi : i < q.l.length) (hg : Good n q) (ho : OrdUp q.l i) :
    Good n (rise q i) ∧ Ord (rise q i).l ∧ (rise q i).l.length = q.l.length ∧ ∀ x : Int, 0 ≤ x → x < n → key (rise q i) x = key q x := by
  have hs := lay_same hg hi
  have := riseGo_good (nth q.l i) n i q i (Nat.le_refl _) hi (by rw [hs]; exact hg) (by rw [hs]; exact ho)
  rw [hs] at this
  exact this

theorem kid_is (l : List E) (i : Nat) (h : kid l i < l.length) : (kid l i - 1) / 2 = i ∧ 0 < kid l i ∧ i < kid l i ∧ ∀ c, 0 < c → c < l.length → (c - 1) / 2 = i → le (nth l (kid l i)) (nth l c) := by
  unfold kid at *
  by_cases hc : 2 * i + 2 < l.length ∧ before (nth l (2 * i + 2)) (nth l (2 * i + 1)) = true
  · rw [if_pos hc] at h ⊢
    refine ⟨by omega, by omega, by omega, fun c c0 cl ci => ?_⟩
    rcases (by omega : c = 2 * i + 1 ∨ c = 2 * i + 2) with rfl | rfl
    · exact before_yes hc.2
    · exact le_refl _
  · rw [if_neg hc] at h ⊢
    refine ⟨by omega, by omega, by omega, fun c c0 cl ci => ?_⟩
    rcases (by omega : c = 2 * i + 1 ∨ c = 2 * i + 2) with rfl | rfl
    · exact le_refl _
    · refine before_no ?_
      cases hb : before (nth l (2 * i + 2)) (nth l (2 * i + 1)) with
      | false => rfl
      | true => exact absurd ⟨cl, hb⟩ hc

theorem kid_none (l : List E) (i : Nat) (h : ¬ kid l i < l.length) : ∀ c, 0 < c → c < l.length → (c - 1) / 2 = i → False := by
  unfold kid at h
  intro c c0 cl ci
  by_cases hc : 2 * i + 2 < l.length ∧ before (nth l (2 * i + 2)) (nth l (2 * i + 1)) = true
  · rw [if_pos hc] at h; omega
  · rw [if_neg hc] at h; omega

/-- what sink leaves: the entry lies at some place, with all in order but above it -/
theorem sinkGo_good (e : E) (n : Nat) : ∀ (f : Nat) (q : Q) (i : Nat), q.l.length - i ≤ f → i < q.l.length → Good n (lay q i e) → OrdBut (lay q i e).l i →
    ∃ k, k < q.l.length ∧ nth (sinkGo e f q i).l k = e ∧ Good n (sinkGo e f q i) ∧ OrdUp (sinkGo e f q i).l k ∧ (sinkGo e f q i).l.length = q.l.length ∧ ∀ x : Int, 0 ≤ x → x < n → key (sinkGo e f q i) x = key (lay q i e) x
  | 0, q, i, hf, hi, hg, ho => by omega
  | f + 1, q, i, hf, hi, hg, ho => by
    rw [sinkGo]
    have old : ∀ k, k ≠ i → nth (lay q i e).l k = nth q.l k := fun k a => nth_set_other _ _ _ _ (fun c => a c.symm)
    have nie : nth (lay q i e).l i = e := nth_set_same _ _ _ hi
    have hl1 : (lay q i e).l.length = q.l.length := lay_len _ _ _
    obtain ⟨o1, o2⟩ := ho
    rw [hl1] at o1 o2
    by_cases hc : kid q.l i < q.l.length ∧ before e (nth q.l (kid q.l i)) = false
    · rw [if_pos hc]
      obtain ⟨hk, hb⟩ := hc
      obtain ⟨k1, k0, k2, k3⟩ := kid_is q.l i hk
      obtain ⟨p, hp⟩ : ∃ p, kid q.l i = p := ⟨_, rfl⟩
      rw [hp] at hk hb k1 k0 k2 k3 ⊢
      obtain ⟨g1, g2⟩ := hg.swap hi hk (by omega)
      obtain ⟨u, hu⟩ : ∃ u, nth q.l p = u := ⟨_, rfl⟩
      rw [hu] at hb g1 g2 k3 ⊢
      have ni : nth (lay (lay q i u) p e).l i = u := by
        show nth ((lay q i u).l.set p e) i = u
        rw [nth_set_other _ _ _ _ (by omega)]
        exact nth_set_same _ _ _ hi
      have np : nth (lay (lay q i u) p e).l p = e := nth_set_same _ _ _ (by rw [lay_len]; omega)
      have nx : ∀ k, k ≠ i → k ≠ p → nth (lay (lay q i u) p e).l k = nth q.l k := fun k a b => by
        show nth ((lay q i u).l.set p e) k = _
        rw [nth_set_other _ _ _ _ (fun c => b c.symm)]
        exact nth_set_other _ _ _ _ (fun c => a c.symm)
      have hl2 : (lay (lay q i u) p e).l.length = q.l.length := by rw [lay_len, lay_len]
      have ue : le u e := before_no hb
      have key1 : OrdBut (lay (lay q i u) p e).l p := by
        refine ⟨?_, ?_⟩
        · intro j j0 jl jp jpp
          rw [hl2] at jl
          by_cases ji : j = i
          · subst ji
            rw [ni, nx _ (by omega) (by omega)]
            have := o2 p k0 hk k1 j0
            rw [old _ (by omega), old p (by omega), hu] at this
            exact this
          · by_cases jpi : (j - 1) / 2 = i
            · rw [jpi, ni, nx j ji jp]
              exact k3 j j0 jl jpi
            · rw [nx _ jpi jpp, nx j ji jp]
              have := o1 j j0 jl ji jpi
              rw [old _ jpi, old j ji] at this
              exact this
        · intro c c0 cl cp p0
          rw [hl2] at cl
          rw [k1, ni, nx c (by omega) (by omega)]
          have := o1 c c0 cl (by omega) (by omega)
          rw [cp, old p (by omega), old c (by omega), hu] at this
          exact this
      obtain ⟨k, r0, r1, r2, r3, r4, r5⟩ := sinkGo_good e n f (lay q i u) p (by rw [lay_len]; omega) (by rw [lay_len]; exact hk) g1 key1
      rw [lay_len] at r0 r4
      exact ⟨k, r0, r1, r2, r3, r4, fun x x0 x1 => by rw [r5 x x0 x1, g2 x x0 x1]⟩
    · rw [if_neg hc]
      refine ⟨i, hi, nie, hg, ⟨⟨by rw [hl1]; exact o1, by rw [hl1]; exact o2⟩, ?_⟩, hl1, fun _ _ _ => rfl⟩
      intro c c0 cl ci
      rw [hl1] at cl
      rw [nie, old c (by omega)]
      by_cases hk : kid q.l i < q.l.length
      · have hb : before e (nth q.l (kid q.l i)) = true := by
          cases hb : before e (nth q.l (kid q.l i)) with
          | true => rfl
          | false => exact absurd ⟨hk, hb⟩ hc
        exact le_trans (before_yes hb) ((kid_is q.l i hk).2.2.2 c c0 cl ci)
      · exact (kid_none q.l i hk c c0 cl ci).elim

theorem sink_good {n : Nat} {q : Q} {i : Nat} (hi : i < q.l.length) (hg : Good n q) (ho : OrdBut q.l i) :
    ∃ k, k < q.l.length ∧ nth (sink q i).l k = nth q.l i ∧ Good n (sink q i) ∧ OrdUp (sink q i).l k ∧ (sink q i).l.length = q.l.length ∧ ∀ x : Int, 0 ≤ x → x < n → key (sink q i) x = key q x := by
  have hs := lay_same hg hi
  have := sinkGo_good (nth q.l i) n (q.l.length - i) q i (Nat.le_refl _) hi (by rw [hs]; exact hg) (by rw [hs]; exact ho)
  rw [hs] at this
  exact this

/-- sink, and rise from where the entry came to -/
theorem settle_good {n : Nat} {q : Q} {i : Nat} {id : Int} (hi : i < q.l.length) (hid : (nth q.l i).id = id) (hg : Good n q) (ho : OrdBut q.l i) :
    ∃ k, k < q.l.length ∧ pl (sink q i).place id = (k : Int) + 1 ∧ (sink q i).l.length = q.l.length ∧ Good n (sink q i) ∧
      Good n (rise (sink q i) k) ∧ Ord (rise (sink q i) k).l ∧ (rise (sink q i) k).l.length = q.l.length ∧ ∀ x : Int, 0 ≤ x → x < n → key (rise (sink q i) k) x = key q x := by
  obtain ⟨k, k0, k1, k2, k3, k4, k5⟩ := sink_good hi hg ho
  obtain ⟨r1, r2, r3, r4⟩ := rise_good (by rw [k4]; exact k0) k2 k3
  have hp := (k2.ids k (by rw [k4]; exact k0)).2.2
  rw [k1, hid] at hp
  exact ⟨k, k0, hp, k4, k2, r1, r2, by rw [r3, k4], fun x x0 x1 => by rw [r4 x x0 x1, k5 x x0 x1]⟩

/-- a heap that may be -/
structure Ok (n : Nat) (q : Q) : Prop where
  good : Good n q
  ord : Ord q.l

theorem empty_ok (n : Nat) : Ok n ⟨[], List.replicate n 0⟩ := by
  refine ⟨⟨by simp, fun i hi => by simp at hi, fun j _ _ h => ?_⟩, fun j _ hj => by simp at hj⟩
  exfalso
  apply h
  simp only [pl, List.getD, List.getElem?_replicate]
  split <;> rfl
theorem empty_key (n : Nat) (x : Int) : key ⟨[], List.replicate n 0⟩ x = none := by
  unfold key
  rw [if_pos]
  simp only [pl, List.getD, List.getElem?_replicate]
  split <;> rfl

theorem ordBut_set {l : List E} (h : Ord l) (i : Nat) (e : E) (hi : i < l.length) : OrdBut (l.set i e) i := by
  refine ⟨?_, ?_⟩
  · intro j j0 jl ji jp
    rw [List.length_set] at jl
    rw [nth_set_other _ _ _ _ (fun c => jp c.symm), nth_set_other _ _ _ _ (fun c => ji c.symm)]
    exact h j j0 jl
  · intro c c0 cl ci i0
    rw [List.length_set] at cl
    rw [nth_set_other _ _ _ _ (by omega), nth_set_other _ _ _ _ (by omega)]
    have a := h i i0 hi
    have b := h c c0 cl
    rw [ci] at b
    exact le_trans a b

theorem nth_append_left (l : List E) (m : List E) (i : Nat) (h : i < l.length) : nth (l ++ m) i = nth l i := by simp [nth, List.getD, List.getElem?_append_left h]

/-- a new one at the end -/
def q0new (q : Q) (id k : Int) : Q := lay ⟨q.l ++ [⟨0, 0⟩], q.place⟩ q.l.length ⟨id, k⟩
theorem new_good {n : Nat} {q : Q} {id : Int} (k : Int) (h : Ok n q) (h0 : 0 ≤ id) (h1 : id < n) (hp : pl q.place id = 0) :
    Good n (q0new q id k) ∧ OrdBut (q0new q id k).l q.l.length ∧ (q0new q id k).l.length = q.l.length + 1 ∧ nth (q0new q id k).l q.l.length = ⟨id, k⟩ ∧ pl (q0new q id k).place id = (q.l.length : Int) + 1 ∧
      (∀ x : Int, 0 ≤ x → x ≠ id → pl (q0new q id k).place x = pl q.place x) ∧ (∀ i, i < q.l.length → nth (q0new q id k).l i = nth q.l i) := by
  obtain ⟨hg, ho⟩ := h
  have hpl := hg.plen
  have hidl : id.toNat < q.place.length := by omega
  obtain ⟨q0, hq0⟩ : ∃ q0, q0new q id k = q0 := ⟨_, rfl⟩
  have hl : q0.l = q.l ++ [⟨id, k⟩] := by rw [← hq0]; simp [q0new, lay]
  have hpp : q0.place = q.place.set id.toNat ((q.l.length : Int) + 1) := by rw [← hq0]; rfl
  have hlast : nth q0.l q.l.length = ⟨id, k⟩ := by rw [hl]; simp [nth, List.getD]
  have hold : ∀ i, i < q.l.length → nth q0.l i = nth q.l i := fun i hi => by rw [hl]; exact nth_append_left _ _ _ hi
  have hlen : q0.l.length = q.l.length + 1 := by rw [hl]; simp
  have hne : ∀ i, i < q.l.length → (nth q.l i).id ≠ id := fun i hi e => by have := (hg.ids i hi).2.2; rw [e] at this; omega
  have pid : pl q0.place id = (q.l.length : Int) + 1 := by rw [hpp]; exact pl_set_same _ _ _ hidl
  have pold : ∀ x : Int, 0 ≤ x → x ≠ id → pl q0.place x = pl q.place x := fun x x0 xn => by rw [hpp]; exact pl_set_other _ _ _ _ h0 x0 (fun c => xn c.symm)
  have g0 : Good n q0 := by
    refine ⟨by rw [hpp]; simpa using hpl, fun i hi => ?_, fun j j0 j1 hj => ?_⟩
    · by_cases e : i = q.l.length
      · subst e; rw [hlast]; exact ⟨h0, h1, pid⟩
      · have hi' : i < q.l.length := by omega
        rw [hold i hi']
        have := hg.ids i hi'
        exact ⟨this.1, this.2.1, by rw [pold _ this.1 (hne i hi')]; exact this.2.2⟩
    · by_cases e : j = id
      · subst e; exact ⟨q.l.length, by omega, by rw [hlast], pid⟩
      · rw [pold j j0 e] at hj ⊢
        obtain ⟨i, hi, a, b⟩ := hg.back j j0 j1 hj
        exact ⟨i, by omega, by rw [hold i hi]; exact a, b⟩
  have ob : OrdBut q0.l q.l.length := by
    refine ⟨fun j j0 jl jn jp => ?_, fun c c0 cl cp => by omega⟩
    rw [hold j (by omega), hold _ (by omega)]
    exact ho j j0 (by omega)
  rw [hq0]
  exact ⟨g0, ob, hlen, hlast, pid, pold, hold⟩
/-- one that is in, with another key -/
theorem old_good {n : Nat} {q : Q} {id : Int} (k : Int) (h : Ok n q) (h0 : 0 ≤ id) (h1 : id < n) {i : Nat} (hi : i < q.l.length) (a : (nth q.l i).id = id) (b : pl q.place id = (i : Int) + 1) :
    Good n (lay q i ⟨id, k⟩) ∧ OrdBut (lay q i ⟨id, k⟩).l i ∧ (lay q i ⟨id, k⟩).l.length = q.l.length ∧ nth (lay q i ⟨id, k⟩).l i = ⟨id, k⟩ ∧ (lay q i ⟨id, k⟩).place = q.place ∧ (∀ j, j ≠ i → nth (lay q i ⟨id, k⟩).l j = nth q.l j) := by
  obtain ⟨hg, ho⟩ := h
  have hpl := hg.plen
  have hidl : id.toNat < q.place.length := by omega
  obtain ⟨q0, hq0⟩ : ∃ q0, lay q i ⟨id, k⟩ = q0 := ⟨_, rfl⟩
  have hl : q0.l = q.l.set i ⟨id, k⟩ := by rw [← hq0]; rfl
  have hnp : q0.place = q.place := by
    have := lay_same hg hi
    have h2 : (lay q i (nth q.l i)).place = q.place := by rw [this]
    rw [← hq0]
    show q.place.set id.toNat _ = _
    rw [← a]
    exact h2
  have hlen : q0.l.length = q.l.length := by rw [hl]; simp
  have hat : nth q0.l i = ⟨id, k⟩ := by rw [hl]; exact nth_set_same _ _ _ hi
  have hold : ∀ j, j ≠ i → nth q0.l j = nth q.l j := fun j hj => by rw [hl]; exact nth_set_other _ _ _ _ (fun c => hj c.symm)
  have g0 : Good n q0 := by
    refine ⟨by rw [hnp]; exact hpl, fun j hj => ?_, fun j j0 j1 hj => ?_⟩
    · rw [hlen] at hj
      rw [hnp]
      by_cases e : j = i
      · subst e; rw [hat]; exact ⟨h0, h1, b⟩
      · rw [hold j e]; exact hg.ids j hj
    · rw [hnp] at hj ⊢
      obtain ⟨m, hm, c, d⟩ := hg.back j j0 j1 hj
      refine ⟨m, by omega, ?_, d⟩
      by_cases e : m = i
      · subst e; rw [hat]; rw [← c, a]
      · rw [hold m e]; exact c
  have ob : OrdBut q0.l i := by rw [hl]; exact ordBut_set ho i _ hi
  rw [hq0]
  exact ⟨g0, ob, hlen, hat, hnp, hold⟩

theorem put_ok {n : Nat} {q : Q} {id : Int} (k : Int) (h : Ok n q) (h0 : 0 ≤ id) (h1 : id < n) :
    Ok n (put q id k) ∧ ∀ x : Int, 0 ≤ x → x < n → key (put q id k) x = if x = id then some k else key q x := by
  obtain ⟨hg, ho⟩ := h
  have hpl := hg.plen
  have hidl : id.toNat < q.place.length := by omega
  unfold put
  by_cases hp : pl q.place id = 0
  · rw [if_pos hp]
    simp only
    obtain ⟨g0, ob, hlen, hlast, pid, pold, hold⟩ := new_good k ⟨hg, ho⟩ h0 h1 hp
    obtain ⟨q0, hq0⟩ : ∃ q0, q0new q id k = q0 := ⟨_, rfl⟩
    have hq0' : lay ⟨q.l ++ [⟨0, 0⟩], q.place⟩ q.l.length ⟨id, k⟩ = q0 := hq0
    rw [hq0] at g0 ob hlen hlast pid pold hold
    obtain ⟨m, m0, m1, m2, m3, m4, m5, m6, m7⟩ := settle_good (id := id) (by omega : q.l.length < q0.l.length) (by rw [hlast]) g0 ob
    rw [hq0', m1, show ((m : Int) + 1 - 1).toNat = m by omega]
    refine ⟨⟨m4, m5⟩, fun x x0 x1 => ?_⟩
    rw [m7 x x0 x1]
    by_cases e : x = id
    · subst e
      rw [if_pos rfl]
      have := g0.key_at (i := q.l.length) (by omega)
      rw [hlast] at this
      exact this
    · rw [if_neg e]
      unfold key
      rw [pold x x0 e]
      by_cases hx : pl q.place x = 0
      · rw [if_pos hx, if_pos hx]
      · rw [if_neg hx, if_neg hx]
        obtain ⟨i, hi, a, b⟩ := hg.back x x0 x1 hx
        rw [b, show ((i : Int) + 1 - 1).toNat = i by omega, hold i hi]
  · rw [if_neg hp]
    simp only
    obtain ⟨i, hi, a, b⟩ := hg.back id h0 h1 hp
    rw [b, show ((i : Int) + 1 - 1).toNat = i by omega]
    obtain ⟨g0, ob, hlen, hat, hnp, hold⟩ := old_good k ⟨hg, ho⟩ h0 h1 hi a b
    obtain ⟨q0, hq0⟩ : ∃ q0, lay q i ⟨id, k⟩ = q0 := ⟨_, rfl⟩
    rw [hq0] at g0 ob hlen hat hnp hold ⊢
    obtain ⟨m, m0, m1, m2, m3, m4, m5, m6, m7⟩ := settle_good (id := id) (by omega : i < q0.l.length) (by rw [hat]) g0 ob
    rw [m1, show ((m : Int) + 1 - 1).toNat = m by omega]
    refine ⟨⟨m4, m5⟩, fun x x0 x1 => ?_⟩
    rw [m7 x x0 x1]
    by_cases e : x = id
    · subst e
      rw [if_pos rfl]
      have := g0.key_at (i := i) (by omega)
      rw [hat] at this
      exact this
    · rw [if_neg e]
      unfold key
      rw [hnp]
      by_cases hx : pl q.place x = 0
      · rw [if_pos hx, if_pos hx]
      · rw [if_neg hx, if_neg hx]
        obtain ⟨j, hj, c, d⟩ := hg.back x x0 x1 hx
        rw [d, show ((j : Int) + 1 - 1).toNat = j by omega, hold j (fun f => by subst f; rw [a] at c; exact e c.symm)]


/-- what put does, step by step, where it is new -/
theorem put_new {n : Nat} {q : Q} {id : Int} (k : Int) (h : Ok n q) (h0 : 0 ≤ id) (h1 : id < n) (hp : pl q.place id = 0) :
    (∃ m, m < q.l.length + 1 ∧ pl (sink (q0new q id k) q.l.length).place id = (m : Int) + 1 ∧ (sink (q0new q id k) q.l.length).l.length = q.l.length + 1 ∧ Good n (sink (q0new q id k) q.l.length) ∧ put q id k = rise (sink (q0new q id k) q.l.length) m) := by
  obtain ⟨g0, ob, hlen, hlast, pid, pold, hold⟩ := new_good k h h0 h1 hp
  obtain ⟨m, m0, m1, m2, m3, m4, m5, m6, m7⟩ := settle_good (id := id) (by omega : q.l.length < (q0new q id k).l.length) (by rw [hlast]) g0 ob
  refine ⟨m, by omega, m1, by omega, m3, ?_⟩
  unfold put
  rw [if_pos hp]
  show rise (sink (q0new q id k) q.l.length) (pl (sink (q0new q id k) q.l.length).place id - 1).toNat = _
  rw [m1, show ((m : Int) + 1 - 1).toNat = m by omega]
theorem put_old {n : Nat} {q : Q} {id : Int} (k : Int) (h : Ok n q) (h0 : 0 ≤ id) (h1 : id < n) {i : Nat} (hi : i < q.l.length) (a : (nth q.l i).id = id) (b : pl q.place id = (i : Int) + 1) :
    (∃ m, m < q.l.length ∧ pl (sink (lay q i ⟨id, k⟩) i).place id = (m : Int) + 1 ∧ (sink (lay q i ⟨id, k⟩) i).l.length = q.l.length ∧ Good n (sink (lay q i ⟨id, k⟩) i) ∧ put q id k = rise (sink (lay q i ⟨id, k⟩) i) m) := by
  obtain ⟨g0, ob, hlen, hat, hnp, hold⟩ := old_good k h h0 h1 hi a b
  obtain ⟨m, m0, m1, m2, m3, m4, m5, m6, m7⟩ := settle_good (id := id) (by omega : i < (lay q i ⟨id, k⟩).l.length) (by rw [hat]) g0 ob
  refine ⟨m, by omega, m1, by omega, m3, ?_⟩
  unfold put
  rw [if_neg (by omega)]
  simp only
  rw [b, show ((i : Int) + 1 - 1).toNat = i by omega, m1, show ((m : Int) + 1 - 1).toNat = m by omega]

theorem nth_take (l : List E) (m i : Nat) (h : i < m) : nth (l.take m) i = nth l i := by simp [nth, List.getD, h]

/-- the last one, where another one was -/
def q0drop (q : Q) (id : Int) (i : Nat) : Q := lay ⟨q.l.take (q.l.length - 1), q.place.set id.toNat 0⟩ i (nth q.l (q.l.length - 1))
theorem drop_good {n : Nat} {q : Q} {id : Int} (h : Ok n q) (h0 : 0 ≤ id) (h1 : id < n) {i : Nat} (hi : i < q.l.length) (a : (nth q.l i).id = id) (b : pl q.place id = (i : Int) + 1) (hc : (nth q.l (q.l.length - 1)).id ≠ id) :
    Good n (q0drop q id i) ∧ OrdBut (q0drop q id i).l i ∧ (q0drop q id i).l.length = q.l.length - 1 ∧ nth (q0drop q id i).l i = nth q.l (q.l.length - 1) ∧ i < q.l.length - 1 ∧ pl (q0drop q id i).place id = 0 ∧
      (∀ x : Int, 0 ≤ x → x ≠ id → x ≠ (nth q.l (q.l.length - 1)).id → pl (q0drop q id i).place x = pl q.place x) ∧ (∀ j, j < q.l.length - 1 → j ≠ i → nth (q0drop q id i).l j = nth q.l j) := by
  obtain ⟨hg, ho⟩ := h
  have hpl := hg.plen
  have hidl : id.toNat < q.place.length := by omega
  unfold q0drop
  obtain ⟨last, hlast⟩ : ∃ last, nth q.l (q.l.length - 1) = last := ⟨_, rfl⟩
  rw [hlast] at hc ⊢
  have il := hg.ids (q.l.length - 1) (by omega)
  rw [hlast] at il
  have hold : ∀ j, j < q.l.length - 1 → nth (q.l.take (q.l.length - 1)) j = nth q.l j := fun j hj => nth_take _ _ _ hj
  have tl : (q.l.take (q.l.length - 1)).length = q.l.length - 1 := by rw [List.length_take]; omega
  have pid : pl (q.place.set id.toNat 0) id = 0 := pl_set_same _ _ _ hidl
  have pold : ∀ x : Int, 0 ≤ x → x ≠ id → pl (q.place.set id.toNat 0) x = pl q.place x := fun x x0 xn => pl_set_other _ _ _ _ h0 x0 (fun c => xn c.symm)
  have ilast : i ≠ q.l.length - 1 := fun e => by rw [e, hlast] at a; exact hc a
  have hi' : i < q.l.length - 1 := by omega
  obtain ⟨q0, hq0⟩ : ∃ q0, lay ⟨q.l.take (q.l.length - 1), q.place.set id.toNat 0⟩ i last = q0 := ⟨_, rfl⟩
  have hl : q0.l = (q.l.take (q.l.length - 1)).set i last := by rw [← hq0]; rfl
  have hpp : q0.place = (q.place.set id.toNat 0).set last.id.toNat ((i : Int) + 1) := by rw [← hq0]; rfl
  have hlen : q0.l.length = q.l.length - 1 := by rw [hl]; simp
  have hat : nth q0.l i = last := by rw [hl]; exact nth_set_same _ _ _ (by omega)
  have hold2 : ∀ j, j < q.l.length - 1 → j ≠ i → nth q0.l j = nth q.l j := fun j hj hn => by rw [hl, nth_set_other _ _ _ _ (fun c => hn c.symm)]; exact hold j hj
  have plast : pl q0.place last.id = (i : Int) + 1 := by rw [hpp]; exact pl_set_same _ _ _ (by simp; omega)
  have pid2 : pl q0.place id = 0 := by rw [hpp, pl_set_other _ _ _ _ il.1 h0 hc]; exact pid
  have pold2 : ∀ x : Int, 0 ≤ x → x ≠ id → x ≠ last.id → pl q0.place x = pl q.place x := fun x x0 xn xl => by
    rw [hpp, pl_set_other _ _ _ _ il.1 x0 (fun c => xl c.symm)]; exact pold x x0 xn
  have g0 : Good n q0 := by
    refine ⟨by rw [hpp]; simpa using hpl, fun j hj => ?_, fun j j0 j1 hj => ?_⟩
    · rw [hlen] at hj
      by_cases e : j = i
      · subst e; rw [hat]; exact ⟨il.1, il.2.1, plast⟩
      · rw [hold2 j hj e]
        have := hg.ids j (by omega)
        have n1 : (nth q.l j).id ≠ id := fun f => by rw [f, b] at this; omega
        have n2 : (nth q.l j).id ≠ last.id := fun f => by have := hg.inj (i := j) (j := q.l.length - 1) (by omega) (by omega) (by rw [hlast]; exact f); omega
        exact ⟨this.1, this.2.1, by rw [pold2 _ this.1 n1 n2]; exact this.2.2⟩
    · by_cases e1 : j = id
      · subst e1; exact absurd pid2 hj
      · by_cases e2 : j = last.id
        · subst e2; exact ⟨i, by omega, by rw [hat], plast⟩
        · rw [pold2 j j0 e1 e2] at hj ⊢
          obtain ⟨m, hm, c, d⟩ := hg.back j j0 j1 hj
          have m1 : m ≠ i := fun f => by subst f; exact e1 (c.symm.trans a)
          have m2 : m ≠ q.l.length - 1 := fun f => by rw [f, hlast] at c; exact e2 c.symm
          exact ⟨m, by omega, by rw [hold2 m (by omega) m1]; exact c, d⟩
  have ot : Ord (q.l.take (q.l.length - 1)) := fun j j0 jl => by
    rw [tl] at jl
    rw [hold j jl, hold _ (by omega)]
    exact ho j j0 (by omega)
  have ob : OrdBut q0.l i := by rw [hl]; exact ordBut_set ot i _ (by omega)
  rw [hq0]
  exact ⟨g0, ob, hlen, hat, hi', pid2, pold2, hold2⟩

theorem drop_ok {n : Nat} {q : Q} {id : Int} (h : Ok n q) (h0 : 0 ≤ id) (h1 : id < n) (hin : pl q.place id ≠ 0) :
    Ok n (drop q id) ∧ (drop q id).l.length + 1 = q.l.length ∧ ∀ x : Int, 0 ≤ x → x < n → key (drop q id) x = if x = id then none else key q x := by
  obtain ⟨hg, ho⟩ := h
  have hpl := hg.plen
  have hidl : id.toNat < q.place.length := by omega
  obtain ⟨i, hi, a, b⟩ := hg.back id h0 h1 hin
  unfold drop
  simp only
  rw [b, show ((i : Int) + 1 - 1).toNat = i by omega]
  obtain ⟨last, hlast⟩ : ∃ last, nth q.l (q.l.length - 1) = last := ⟨_, rfl⟩
  rw [hlast]
  have il := hg.ids (q.l.length - 1) (by omega)
  rw [hlast] at il
  have hold : ∀ j, j < q.l.length - 1 → nth (q.l.take (q.l.length - 1)) j = nth q.l j := fun j hj => nth_take _ _ _ hj
  have tl : (q.l.take (q.l.length - 1)).length = q.l.length - 1 := by rw [List.length_take]; omega
  have pid : pl (q.place.set id.toNat 0) id = 0 := pl_set_same _ _ _ hidl
  have pold : ∀ x : Int, 0 ≤ x → x ≠ id → pl (q.place.set id.toNat 0) x = pl q.place x := fun x x0 xn => pl_set_other _ _ _ _ h0 x0 (fun c => xn c.symm)
  by_cases hc : last.id = id
  · rw [if_pos hc]
    have ie : i = q.l.length - 1 := hg.inj hi (by omega) (by rw [hlast, a, hc])
    refine ⟨⟨⟨by simpa using hpl, fun j hj => ?_, fun j j0 j1 hj => ?_⟩, fun j j0 jl => ?_⟩, by simp only; omega, fun x x0 x1 => ?_⟩
    · simp only at hj ⊢
      rw [tl] at hj
      rw [hold j hj]
      have := hg.ids j (by omega)
      have hne : (nth q.l j).id ≠ id := fun e => by rw [e, b] at this; omega
      exact ⟨this.1, this.2.1, by rw [pold _ this.1 hne]; exact this.2.2⟩
    · simp only at hj ⊢
      have hne : j ≠ id := fun e => by rw [e] at hj; exact hj pid
      rw [pold j j0 hne] at hj ⊢
      obtain ⟨m, hm, c, d⟩ := hg.back j j0 j1 hj
      have : m ≠ q.l.length - 1 := fun e => by rw [e, hlast, hc] at c; exact hne c.symm
      exact ⟨m, by omega, by rw [hold m (by omega)]; exact c, d⟩
    · simp only at jl ⊢
      rw [tl] at jl
      rw [hold j jl, hold _ (by omega)]
      exact ho j j0 (by omega)
    · unfold key
      by_cases e : x = id
      · subst e; rw [if_pos rfl]; simp only; rw [if_pos pid]
      · rw [if_neg e]
        simp only
        rw [pold x x0 e]
        by_cases hx : pl q.place x = 0
        · rw [if_pos hx, if_pos hx]
        · rw [if_neg hx, if_neg hx]
          obtain ⟨m, hm, c, d⟩ := hg.back x x0 x1 hx
          have : m ≠ q.l.length - 1 := fun f => by rw [f, hlast, hc] at c; exact e c.symm
          rw [d, show ((m : Int) + 1 - 1).toNat = m by omega, hold m (by omega)]
  · rw [if_neg hc]
    obtain ⟨g0, ob, hlen, hat, hi', pid2, pold2, hold2⟩ := drop_good ⟨hg, ho⟩ h0 h1 hi a b (by rw [hlast]; exact hc)
    rw [hlast] at hat pold2
    obtain ⟨q0, hq0⟩ : ∃ q0, q0drop q id i = q0 := ⟨_, rfl⟩
    have hq0' : lay ⟨q.l.take (q.l.length - 1), q.place.set id.toNat 0⟩ i last = q0 := by rw [← hq0]; unfold q0drop; rw [hlast]
    rw [hq0] at g0 ob hlen hat pid2 pold2 hold2
    rw [hq0']
    obtain ⟨m, m0, m1, m2, m3, m4, m5, m6, m7⟩ := settle_good (id := last.id) (by omega : i < q0.l.length) (by rw [hat]) g0 ob
    rw [m1, show ((m : Int) + 1 - 1).toNat = m by omega]
    refine ⟨⟨m4, m5⟩, by omega, fun x x0 x1 => ?_⟩
    rw [m7 x x0 x1]
    by_cases e1 : x = id
    · subst e1
      rw [if_pos rfl]
      unfold key
      rw [if_pos pid2]
    · rw [if_neg e1]
      by_cases e2 : x = last.id
      · subst e2
        have k1 := g0.key_at (i := i) (by omega)
        have k2 := hg.key_at (i := q.l.length - 1) (by omega)
        rw [hat] at k1
        rw [hlast] at k2
        rw [k1, k2]
      · unfold key
        rw [pold2 x x0 e1 e2]
        by_cases hx : pl q.place x = 0
        · rw [if_pos hx, if_pos hx]
        · rw [if_neg hx, if_neg hx]
          obtain ⟨m, hm, c, d⟩ := hg.back x x0 x1 hx
          have m1 : m ≠ i := fun f => by subst f; exact e1 (c.symm.trans a)
          have m2 : m ≠ q.l.length - 1 := fun f => by rw [f, hlast] at c; exact e2 c.symm
          rw [d, show ((m : Int) + 1 - 1).toNat = m by omega, hold2 m (by omega) m1]

/-- what drop does, step by step, where it is not the last one -/
theorem drop_steps {n : Nat} {q : Q} {id : Int} (h : Ok n q) (h0 : 0 ≤ id) (h1 : id < n) {i : Nat} (hi : i < q.l.length) (a : (nth q.l i).id = id) (b : pl q.place id = (i : Int) + 1) (hc : (nth q.l (q.l.length - 1)).id ≠ id) :
    (∃ m, m < q.l.length - 1 ∧ pl (sink (q0drop q id i) i).place (nth q.l (q.l.length - 1)).id = (m : Int) + 1 ∧ (sink (q0drop q id i) i).l.length = q.l.length - 1 ∧ Good n (sink (q0drop q id i) i) ∧ drop q id = rise (sink (q0drop q id i) i) m) := by
  obtain ⟨g0, ob, hlen, hat, hi', _⟩ := drop_good h h0 h1 hi a b hc
  obtain ⟨m, m0, m1, m2, m3, m4, m5, m6, m7⟩ := settle_good (id := (nth q.l (q.l.length - 1)).id) (by omega : i < (q0drop q id i).l.length) (by rw [hat]) g0 ob
  refine ⟨m, by omega, m1, by omega, m3, ?_⟩
  unfold drop
  simp only
  rw [if_neg hc, b, show ((i : Int) + 1 - 1).toNat = i by omega]
  show rise (sink (q0drop q id i) i) (pl (sink (q0drop q id i) i).place (nth q.l (q.l.length - 1)).id - 1).toNat = _
  rw [m1, show ((m : Int) + 1 - 1).toNat = m by omega]
theorem drop_last {q : Q} {id : Int} (hc : (nth q.l (q.l.length - 1)).id = id) : drop q id = ⟨q.l.take (q.l.length - 1), q.place.set id.toNat 0⟩ := by
  unfold drop
  simp only
  rw [if_pos hc]

theorem nodup_le : ∀ (n : Nat) (l : List Nat), l.Nodup → (∀ x ∈ l, x < n) → l.length ≤ n
  | 0, l, _, h => by
    cases l with
    | nil => simp
    | cons x l => have := h x (by simp); omega
  | n + 1, l, hn, h => by
    by_cases hx : n ∈ l
    · have h1 := List.length_erase_of_mem hx
      have h2 := nodup_le n (l.erase n) (hn.erase n) (fun x hx2 => by
        have h3 := (List.Nodup.mem_erase_iff hn).1 hx2
        have := h x h3.2
        have := h3.1
        omega)
      omega
    · have := nodup_le n l hn (fun x hx2 => by
        have := h x hx2
        have : x ≠ n := fun e => hx (e ▸ hx2)
        omega)
      omega
theorem Good.len_le {n : Nat} {q : Q} (h : Good n q) : q.l.length ≤ n := by
  have h1 := nodup_le n ((List.range q.l.length).map fun i => (nth q.l i).id.toNat) (by
    rw [List.nodup_iff_pairwise_ne, List.pairwise_map]
    refine List.Pairwise.imp_of_mem ?_ (List.nodup_iff_pairwise_ne.1 List.nodup_range)
    intro a b ha hb hab e
    rw [List.mem_range] at ha hb
    have h3 := h.ids a ha
    have h4 := h.ids b hb
    exact hab (h.inj ha hb (by omega))) (by
    intro x hx
    obtain ⟨i, hi, rfl⟩ := List.mem_map.1 hx
    rw [List.mem_range] at hi
    have := h.ids i hi
    omega)
  simpa using h1

/-- the first one is the least -/
theorem Ok.first {n : Nat} {q : Q} (h : Ok n q) : ∀ i, i < q.l.length → le (nth q.l 0) (nth q.l i) := by
  intro i
  induction i using Nat.strongRecOn with
  | ind i ih =>
    intro hi
    by_cases e : i = 0
    · subst e; exact le_refl _
    · exact le_trans (ih ((i - 1) / 2) (by omega) (by omega)) (h.ord i (by omega) hi)

end Go.Proofs.Ytfppfdejjifhdaa.Hp
