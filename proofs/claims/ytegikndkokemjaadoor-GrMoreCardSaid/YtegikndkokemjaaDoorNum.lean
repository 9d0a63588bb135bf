import Derived.Test.YtegikndkokemjaaDoorShelf
import Derived.Test.YtegikndkokemjaaDoorGrFn
import Derived.WalkKit
import Derived.BigQuiet
import Derived.Deep.QuietTactic
import Derived.WalkLawsBesides
import Derived.WalkSpells
import Derived.Lib.SmallJoins
import Derived.Lib.Hide
namespace Go.Proofs.YtegikndkokemjaaDoor.Num
open Go.RowKit Go.Shelf Go.Lib GrFn

theorem isDigit_iff (c : UInt8) : isDigit c = true ↔ 48 ≤ c.toNat ∧ c.toNat ≤ 57 := by
  unfold isDigit
  simp [UInt8.le_iff_toNat_le]

theorem in_set (c : UInt8) : ([48, 49, 50, 51, 52, 53, 54, 55, 56, 57] : List UInt8).contains c = isDigit c := by
  have h : ∀ n : Fin 256, ([48, 49, 50, 51, 52, 53, 54, 55, 56, 57] : List UInt8).contains (UInt8.ofNat n.val) = isDigit (UInt8.ofNat n.val) := by decide +kernel
  have := h ⟨c.toNat, c.toNat_lt⟩
  simpa using this

theorem dropWhile_nil {α : Type} (p : α → Bool) (l : List α) : l.dropWhile p = [] ↔ l.all p = true := by
  induction l with
  | nil => simp
  | cons a l ih => by_cases h : p a = true <;> simp [List.dropWhile, h, ih]

theorem trim_digits (l : List UInt8) : (Lib.trimS l [48, 49, 50, 51, 52, 53, 54, 55, 56, 57] = []) ↔ l.all isDigit = true := by
  unfold Lib.trimS Lib.trimLeftS Lib.trimRightS
  simp only [in_set]
  rw [dropWhile_nil]
  constructor
  · intro h
    have h2 : (l.reverse.dropWhile isDigit) = [] := by
      cases e : l.reverse.dropWhile isDigit with
      | nil => rfl
      | cons a t =>
        exfalso
        rw [e] at h
        have ha : isDigit a = true := by
          rw [List.all_eq_true] at h
          exact h a (by simp)
        have := List.head?_dropWhile_not isDigit l.reverse
        rw [e] at this
        simp [ha] at this
    have := (dropWhile_nil _ _).1 h2
    simpa using this
  · intro h
    rw [(dropWhile_nil isDigit l.reverse).2 (by simpa using h)]
    rfl

theorem decFrom_num (l : List UInt8) : ∀ acc : Nat, l.all isDigit = true → Lib.decFrom acc l = some (l.foldl (fun n c => 10 * n + (c.toNat - 48)) acc) := by
  induction l with
  | nil => intro acc _; rfl
  | cons b r ih =>
    intro acc h
    simp only [List.all_cons, Bool.and_eq_true] at h
    have hb := (isDigit_iff b).1 h.1
    simp only [Lib.decFrom, Lib.digitVal, if_pos hb, List.foldl_cons]
    rw [ih _ h.2]
    congr 2
    omega

theorem atoi_num (l : List UInt8) (h0 : l ≠ []) (h : l.all isDigit = true) : Lib.atoi l = some (num l : Int) := by
  cases l with
  | nil => exact absurd rfl h0
  | cons b r =>
    have hb := (isDigit_iff b).1 (by simp only [List.all_cons, Bool.and_eq_true] at h; exact h.1)
    have n45 : (b == 45) = false := by
      rw [beq_eq_false_iff_ne]; intro e; subst e; exact absurd hb.1 (by decide)
    have n43 : (b == 43) = false := by
      rw [beq_eq_false_iff_ne]; intro e; subst e; exact absurd hb.1 (by decide)
    simp only [Lib.atoi, n45, n43, Lib.decNat, List.isEmpty_cons, Bool.false_eq_true, if_false]
    rw [decFrom_num _ 0 h]
    rfl

/-- strings.Trim at the digits -/
theorem trim_any (s : ByteArray) (w : World) (hs : s.size ≤ 9223372036854775807) :
    Calls Tryd.prog 27 #[.string s, .string ⟨#[48, 49, 50, 51, 52, 53, 54, 55, 56, 57]⟩] w fun e w' => e = .returned (.string ⟨(Lib.trimS s.data.toList [48, 49, 50, 51, 52, 53, 54, 55, 56, 57]).toArray⟩) ∧ Below w.heap.size w w' :=
  Any.strings_Trim_laid Tryd.lays160 (by kernel_rfl) s ⟨#[48, 49, 50, 51, 52, 53, 54, 55, 56, 57]⟩ w hs (by decide) (ascii_of_all (by decide))

/-- strconv.Atoi of some digits -/
theorem atoi_any (s : ByteArray) (n : Int) (hl : s.size ≤ 18) (h : Lib.atoi s.data.toList = some n) (w : World) :
    Calls Tryd.prog 28 #[.string s] w fun e w' => e = .returned (.tuple #[.int .i64 n, .nilIface]) ∧ Below w.heap.size w w' :=
  (Any.strconv_Atoi Tryd.lays172 s n hl h w).mono fun _ _ ⟨he, _, hw⟩ => ⟨he, by rw [hw]; exact Go.Joins.below_bytesWorld _ _ _ _ (Nat.le_refl _)⟩

theorem head_of (s : ByteArray) (h : 0 < s.size) : s.data.toList.head? = some s[0] := by
  obtain ⟨⟨l⟩⟩ := s
  cases l with
  | nil => simp [ByteArray.size] at h
  | cons a r => rfl

theorem one_of (s : ByteArray) (h : 0 < s.size) (h48 : (s[0].toNat : Int) = 48) : s.toList = [48] ↔ s.size = 1 := by
  rw [Lib.toList_data]
  have hh := head_of s h
  have h0 : s[0] = 48 := by
    apply UInt8.toNat_inj.1
    have : (48 : UInt8).toNat = 48 := rfl
    omega
  have hs : s.size = s.data.toList.length := Lib.size_eq s
  rw [h0] at hh
  constructor
  · intro e; rw [hs, e]; rfl
  · intro e
    rw [hs] at e
    match s.data.toList, e, hh with
    | [a], _, hh => simpa using hh

theorem number_no (s : ByteArray) (most : Int) (h : ¬ (0 < s.size ∧ s.size ≤ 10)) : number s.data.toList most = none := by
  have hs : s.size = s.data.toList.length := Lib.size_eq s
  unfold number
  rw [if_pos (by omega)]

theorem number_lead (s : ByteArray) (most : Int) (h : 0 < s.size) (h48 : (s[0].toNat : Int) = 48) (hn : ¬ s.toList = [48]) : number s.data.toList most = none := by
  have hs : s.size = s.data.toList.length := Lib.size_eq s
  have hn' : ¬ s.size = 1 := fun e => hn ((one_of s h h48).2 e)
  have h0 : s[0] = 48 := by
    apply UInt8.toNat_inj.1
    have : (48 : UInt8).toNat = 48 := rfl
    omega
  unfold number
  split
  · rfl
  · rw [if_pos ⟨by rw [head_of s h, h0], by omega⟩]

theorem number_odd (s : ByteArray) (most : Int) (hd : ¬ s.data.toList.all isDigit = true) : number s.data.toList most = none := by
  unfold number
  split
  · rfl
  · split
    · rfl
    · rfl

theorem number_yes (s : ByteArray) (most : Int) (h : 0 < s.size) (h2 : s.size ≤ 10) (hl : (s[0].toNat : Int) = 48 → s.toList = [48]) (hd : s.data.toList.all isDigit = true) :
    number s.data.toList most = if most < (num s.data.toList : Int) then none else some (num s.data.toList : Int) := by
  have hs : s.size = s.data.toList.length := Lib.size_eq s
  unfold number
  rw [if_neg (by omega), if_neg, if_pos hd]
  rintro ⟨hh, h1⟩
  rw [head_of s h] at hh
  have h0 : s[0] = 48 := by simpa using hh
  have h48 : (s[0].toNat : Int) = 48 := by rw [h0]; rfl
  have := (one_of s h h48).1 (hl h48)
  omega

/-- what Number answers -/
def ans (o : Option Int) (e : Ending) : Prop := e = .returned (.tuple #[.int .i64 (o.getD 0), .bool o.isSome])

set_option maxHeartbeats 400000 in
theorem number_short (s : ByteArray) (most : Int) (w : World) (h : ¬ (0 < s.size ∧ s.size ≤ 10)) :
    Calls Tryd.prog 16 #[.string s, .int .i64 most] w fun e w' => ans (number s.data.toList most) e ∧ Below w.heap.size w w' := by
  have hfin := Lib.hid (number_no s most h)
  by_cases h0 : s.size = 0
  · have hb : ((s.size : Int) == 0) = true := by rw [beq_iff_eq]; omega
    clear h h0
    go_enter Tryd.func16, Tryd.ntmps16
    go_wp2_with fail
    go_ret2
    exact ⟨by rw [hfin.out]; rfl, Below.refl _ _⟩
  · have hb : ((s.size : Int) == 0) = false := by rw [beq_eq_false_iff_ne]; omega
    have hc : (10 : Int) < (s.size : Int) := by omega
    clear h h0
    go_enter Tryd.func16, Tryd.ntmps16
    go_wp2_with fail
    go_ret2
    exact ⟨by rw [hfin.out]; rfl, Below.refl _ _⟩

set_option maxHeartbeats 400000 in
theorem number_bad (s : ByteArray) (most : Int) (w : World) (h : 0 < s.size) (h2 : s.size ≤ 10) (hd : ¬ s.data.toList.all isDigit = true) :
    Calls Tryd.prog 16 #[.string s, .int .i64 most] w fun e w' => ans (number s.data.toList most) e ∧ Below w.heap.size w w' := by
  have hfin := Lib.hid (number_odd s most hd)
  have hb : ((s.size : Int) == 0) = false := by rw [beq_eq_false_iff_ne]; omega
  have hc : ¬ (10 : Int) < (s.size : Int) := by omega
  have hcon := trim_any s w (by omega)
  have hr : ¬ (Lib.trimS s.data.toList [48, 49, 50, 51, 52, 53, 54, 55, 56, 57] = []) := fun e => hd ((trim_digits _).1 e)
  obtain ⟨r, hr1, hr2⟩ : ∃ r : ByteArray, r = ⟨(Lib.trimS s.data.toList [48, 49, 50, 51, 52, 53, 54, 55, 56, 57]).toArray⟩ ∧ r.toList.isEmpty = false := ⟨_, rfl, by rw [Lib.toList_data]; simpa using hr⟩
  rw [← hr1] at hcon
  clear hr hr1 hd
  have HC := Lib.hid hcon
  clear hcon
  go_enter Tryd.func16, Tryd.ntmps16
  go_wp2_with (go_at_call 27; refine HC.out.mono ?_; rintro e w1 ⟨rfl, hB1⟩)
  all_goals go_ret2
  all_goals exact ⟨by rw [hfin.out]; rfl, by first | exact Below.refl _ _ | assumption⟩

set_option maxHeartbeats 400000 in
theorem number_good (s : ByteArray) (most : Int) (w : World) (h : 0 < s.size) (h2 : s.size ≤ 10) (hd : s.data.toList.all isDigit = true) :
    Calls Tryd.prog 16 #[.string s, .int .i64 most] w fun e w' => ans (number s.data.toList most) e ∧ Below w.heap.size w w' := by
  have hb : ((s.size : Int) == 0) = false := by rw [beq_eq_false_iff_ne]; omega
  have hc : ¬ (10 : Int) < (s.size : Int) := by omega
  have hcon := trim_any s w (by omega)
  have hr := (trim_digits s.data.toList).2 hd
  obtain ⟨r, hr1, hr2⟩ : ∃ r : ByteArray, r = ⟨(Lib.trimS s.data.toList [48, 49, 50, 51, 52, 53, 54, 55, 56, 57]).toArray⟩ ∧ r.toList.isEmpty = true := ⟨_, rfl, by rw [Lib.toList_data]; simpa using hr⟩
  rw [← hr1] at hcon
  have hl := Lib.hid (number_lead s most h)
  have hy := Lib.hid (number_yes s most h h2)
  have hd' := Lib.hid hd
  have ha : ∀ w, Calls Tryd.prog 28 #[.string s] w fun e w' => e = .returned (.tuple #[.int .i64 (num s.data.toList : Int), .nilIface]) ∧ Below w.heap.size w w' :=
    atoi_any s _ (by omega) (atoi_num _ (by intro e; have := Lib.size_eq s
                                            rw [e, List.length_nil] at this; omega) hd)
  generalize num s.data.toList = m at ha hy
  clear hr hr1 hd
  have HC := Lib.hid hcon
  have HA := Lib.hid ha
  clear hcon ha
  go_enter Tryd.func16, Tryd.ntmps16
  go_wp2_with (first | (go_at_call 27; refine HC.out.mono ?_; rintro e w1 ⟨rfl, hB1⟩) | (go_at_call 28; refine (HA.out _).mono ?_; rintro e w2 ⟨rfl, hB2⟩))
  all_goals go_ret2
  all_goals first
    | (have k1 : most < (m : Int) := by assumption
       exact ⟨by rw [hy.out (fun _ => by assumption) hd'.out, if_pos k1]; rfl, by exact hB1.trans (hB2.mono hB1.size)⟩)
    | (have k1 : (m : Int) ≤ most := by assumption
       exact ⟨by rw [hy.out (fun _ => by assumption) hd'.out, if_neg (by omega)]; rfl, by exact hB1.trans (hB2.mono hB1.size)⟩)
    | (have k1 : ¬ (s[0].toNat : Int) = 48 := by assumption
       have k2 : most < (m : Int) := by assumption
       exact ⟨by rw [hy.out (fun e => absurd e k1) hd'.out, if_pos k2]; rfl, by exact hB1.trans (hB2.mono hB1.size)⟩)
    | (have k1 : ¬ (s[0].toNat : Int) = 48 := by assumption
       have k2 : (m : Int) ≤ most := by assumption
       exact ⟨by rw [hy.out (fun e => absurd e k1) hd'.out, if_neg (by omega)]; rfl, by exact hB1.trans (hB2.mono hB1.size)⟩)
    | (have k1 : (s[0].toNat : Int) = 48 := by assumption
       have k2 : ¬ s.toList = [48] := by assumption
       exact ⟨by rw [hl.out k1 k2]; rfl, Below.refl _ _⟩)

theorem number_any (s : ByteArray) (most : Int) (w : World) :
    Calls Tryd.prog 16 #[.string s, .int .i64 most] w fun e w' => ans (number s.data.toList most) e ∧ Below w.heap.size w w' := by
  by_cases h : 0 < s.size ∧ s.size ≤ 10
  · by_cases hd : s.data.toList.all isDigit = true
    · exact number_good s most w h.1 h.2 hd
    · exact number_bad s most w h.1 h.2 hd
  · exact number_short s most w h
end Go.Proofs.YtegikndkokemjaaDoor.Num
