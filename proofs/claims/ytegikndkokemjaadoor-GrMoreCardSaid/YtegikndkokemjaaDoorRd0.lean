import Derived.Test.YtegikndkokemjaaDoorPAllx18
namespace Go.Proofs.YtegikndkokemjaaDoor.PAll
open Go.RowKit Go.Proofs.YtegikndkokemjaaDoorW.PrintWords Go.Proofs.YtegikndkokemjaaDoorW.PrintLast Go.Proofs.YtegikndkokemjaaDoorW.PrintMore
open GrFn

/-- a map's arcs as the plain text has them, and back -/
def toS (a : Arc) : S50 := ⟨a.src, a.dst, a.w⟩
def ofS (s : S50) : Arc := ⟨s.f0, s.f1, s.f2⟩

/-- a string's bytes -/
def bytes (s : ByteArray) : List UInt8 := s.data.toList

/-- what numbers answers -/
def numAns : Option (List Int) → List Int × Bool
  | some l => (l, true)
  | none => ([], false)

theorem wrap_next {i : Nat} (h : i ≤ 1000) : wrap64 ((i : Int) + 1) = ((i + 1 : Nat) : Int) := by unfold wrap64; omega

theorem numbers_cons (w : List UInt8) (ws : List (List UInt8)) (m : Int) (ms : List Int) : numbers (w :: ws) (m :: ms) = match number w m with
    | none => none
    | some n => match numbers ws ms with
      | none => none
      | some l => some (n :: l) := rfl

theorem numbers_loop (ws : List ByteArray) (ms : List Int) (hlen : ws.length = ms.length) (hsm : ms.length ≤ 1000) :
    ∀ (d k i : Nat) (acc : List Int), i + d = ms.length → d < k → acc.length = i →
      gr_numbers.l0 k ms acc ws (ws.length : Int) (i : Int) = some (numAns ((numbers ((ws.drop i).map bytes) (ms.drop i)).map (acc ++ ·))) := by
  intro d
  induction d with
  | zero =>
    intro k i acc hi hk _
    obtain ⟨k, rfl⟩ : ∃ m, k = m + 1 := ⟨k - 1, by omega⟩
    rw [List.drop_eq_nil_of_le (by omega), List.drop_eq_nil_of_le (by omega)]
    simp only [gr_numbers.l0]
    rw [if_neg (by omega)]
    simp [numbers, numAns]
  | succ d ih =>
    intro k i acc hi hk ha
    obtain ⟨k, rfl⟩ : ∃ m, k = m + 1 := ⟨k - 1, by omega⟩
    have h1 : i < ws.length := by omega
    have h2 : i < ms.length := by omega
    have e1 : ws.drop i = ws[i] :: ws.drop (i + 1) := List.drop_eq_getElem_cons (by omega)
    have e2 : ms.drop i = ms[i] :: ms.drop (i + 1) := List.drop_eq_getElem_cons (by omega)
    have r1 : rdOf ByteArray.empty ws (i : Int) = ws[i] := by simp [rdOf, h1]
    have r2 : rd ms (i : Int) = ms[i] := by simp [rd, h2]
    rw [e1, e2, List.map_cons, numbers_cons]
    simp only [gr_numbers.l0]
    rw [if_pos (by omega), if_pos (by omega), if_pos (by omega), if_pos (by omega), r1, r2]
    simp only [gr_Number.f, Option.bind_some]
    cases hn : number (bytes ws[i]) ms[i] with
    | none =>
      have hn' : number ws[i].data.toList ms[i] = none := hn
      rw [hn']
      simp [numAns]
    | some n =>
      have hn' : number ws[i].data.toList ms[i] = some n := hn
      rw [hn']
      simp only [Option.isSome_some, if_true, Option.getD_some]
      rw [if_pos (by omega), wrap_next (by omega), ih k (i + 1) (acc ++ [n]) (by omega) (by omega) (by simp; omega)]
      cases numbers (List.map bytes (ws.drop (i + 1))) (ms.drop (i + 1)) with
      | none => simp
      | some l => simp

theorem numbers_len : ∀ (ws : List (List UInt8)) (ms : List Int), ws.length ≠ ms.length → numbers ws ms = none
  | [], [], h => absurd rfl h
  | [], _ :: _, _ => rfl
  | _ :: _, [], _ => rfl
  | w :: ws, m :: ms, h => by
    rw [numbers_cons, numbers_len ws ms (by simpa using h)]
    cases number w m <;> rfl

theorem numbers_f (ws : List ByteArray) (ms : List Int) (hsm : ms.length ≤ 1000) : gr_numbers.f (ms.length + 1) ws ms = some (numAns (numbers (ws.map bytes) ms)) := by
  unfold gr_numbers.f
  by_cases h : ws.length = ms.length
  · rw [if_pos (by omega)]
    have := numbers_loop ws ms h hsm ms.length (ms.length + 1) 0 [] (by omega) (by omega) rfl
    simp only [List.drop_zero] at this
    rw [show ((0 : Nat) : Int) = 0 from rfl] at this
    rw [this]
    cases numbers (ws.map bytes) ms <;> rfl
  · rw [if_neg (by omega), numbers_len _ _ (by simpa using h)]
    rfl

/-- gr.numbers -/
theorem numbers_any (ws : List ByteArray) (ms : List Int) (hsm : ms.length ≤ 1000) (A0 A1 : Option Addr) (c0 c1 : Nat) (w : World) (h0 : Kd.C Kd.string w A0 ws.length ws) (g0 : ws.length ≤ c0) (h1 : Kd.C (Kd.int .i64) w A1 ms.length ms) (g1 : ms.length ≤ c1) :
    Calls Tryd.prog 53 #[.slice A0 ws.length c0, .slice A1 ms.length c1] w fun e w' => ∃ v0_ : Value, e = .returned (.tuple #[v0_, .bool (numAns (numbers (ws.map bytes) ms)).2]) ∧ Kd.R (Kd.int .i64) 3 w' w.heap.size (fun _ => True) v0_ (numAns (numbers (ws.map bytes) ms)).1 ∧ Below w.heap.size w w' :=
  gr_numbers.calls (ms.length + 1) A0 c0 ws A1 c1 ms _ _ w h0 g0 h1 g1 (numbers_f ws ms hsm)

end Go.Proofs.YtegikndkokemjaaDoor.PAll
