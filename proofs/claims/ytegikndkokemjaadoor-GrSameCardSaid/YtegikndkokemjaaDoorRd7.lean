import Derived.Test.YtegikndkokemjaaDoorRd6
namespace Go.Proofs.YtegikndkokemjaaDoor.PAll
open Go.RowKit Go.Proofs.YtegikndkokemjaaDoorW.PrintWords Go.Proofs.YtegikndkokemjaaDoorW.PrintLast Go.Proofs.YtegikndkokemjaaDoorW.PrintMore
open GrFn Go.Shelf
open Range (SeqCell wpIn_rangeFunc_cell)
open Split (Short)
set_option linter.unusedVariables false
set_option linter.unusedSimpArgs false
attribute [local go_sem] Oper.semAt_some

theorem between_init {w W : World} {s : ByteArray} {en : Bool}
    (h : (((((((((w.alloc (.cells #[.string s] 9)).alloc (.cells #[.int .i64 0, .slice none 0 0] 25)).alloc (.cells #[.int .i64 0, .slice none 0 0, .int .i64 (-1)] 54)).alloc (.cells #[.pointer (some ⟨w.heap.size + 1 + 1, 0, none⟩)] 52)).alloc (.cells #[.bool en] 4)).alloc (.cells #[.int .i64 0] 3)).alloc (.cells #[.bool false] 4)).alloc (.cells #[.string s] 9)).alloc (.cells #[.string ⟨#[10]⟩] 9)).alloc (.cells #[.int .i64 0] 3) = W) :
    Between w s en 0 false t0 W ∧ Boxed W (w.heap.size + 7) 9 (.string s) ∧ Boxed W (w.heap.size + 7 + 1) 9 (.string ⟨#[10]⟩) ∧ Boxed W (w.heap.size + 7 + 2) 3 (.int .i64 0) ∧ W.heap.size = w.heap.size + 10 := by
  have b0 := blk_new w (.cells #[.string s] 9)
  obtain ⟨w1, e1⟩ : ∃ w1, w.alloc (.cells #[.string s] 9) = w1 := ⟨_, rfl⟩
  have z1 : w1.heap.size = w.heap.size + 1 := by rw [← e1]; simp
  rw [e1] at h b0
  have b1 := blk_new w1 (.cells #[.int .i64 0, .slice none 0 0] 25)
  obtain ⟨w2, e2⟩ : ∃ w2, w1.alloc (.cells #[.int .i64 0, .slice none 0 0] 25) = w2 := ⟨_, rfl⟩
  have z2 : w2.heap.size = w.heap.size + 2 := by rw [← e2]; simp; omega
  have b0 := blk_alloc b0 (.cells #[.int .i64 0, .slice none 0 0] 25)
  rw [e2] at h b0 b1
  have c2 := blk_new w2 (.cells #[.int .i64 0, .slice none 0 0, .int .i64 (-1)] 54)
  obtain ⟨w3, e3⟩ : ∃ w3, w2.alloc (.cells #[.int .i64 0, .slice none 0 0, .int .i64 (-1)] 54) = w3 := ⟨_, rfl⟩
  have z3 : w3.heap.size = w.heap.size + 3 := by rw [← e3]; simp; omega
  have b0 := blk_alloc b0 (.cells #[.int .i64 0, .slice none 0 0, .int .i64 (-1)] 54)
  have b1 := blk_alloc b1 (.cells #[.int .i64 0, .slice none 0 0, .int .i64 (-1)] 54)
  rw [e3] at h b0 b1 c2
  have keep : ∀ (o : Obj) {x y : World} {k : Nat} {ob : Obj}, x.alloc o = y → x.heap[k]? = some ob → y.heap[k]? = some ob := fun o x y k ob e hk => by rw [← e]; exact blk_alloc hk o
  obtain ⟨w4, e4⟩ : ∃ w4, w3.alloc (.cells #[.pointer (some ⟨w.heap.size + 1 + 1, 0, none⟩)] 52) = w4 := ⟨_, rfl⟩
  have n4 := blk_new w3 (.cells #[.pointer (some ⟨w.heap.size + 1 + 1, 0, none⟩)] 52)
  rw [e4] at h n4
  obtain ⟨w5, e5⟩ : ∃ w5, w4.alloc (.cells #[.bool en] 4) = w5 := ⟨_, rfl⟩
  have n5 := blk_new w4 (.cells #[.bool en] 4)
  rw [e5] at h n5
  obtain ⟨w6, e6⟩ : ∃ w6, w5.alloc (.cells #[.int .i64 0] 3) = w6 := ⟨_, rfl⟩
  have n6 := blk_new w5 (.cells #[.int .i64 0] 3)
  rw [e6] at h n6
  obtain ⟨w7, e7⟩ : ∃ w7, w6.alloc (.cells #[.bool false] 4) = w7 := ⟨_, rfl⟩
  have n7 := blk_new w6 (.cells #[.bool false] 4)
  rw [e7] at h n7
  obtain ⟨w8, e8⟩ : ∃ w8, w7.alloc (.cells #[.string s] 9) = w8 := ⟨_, rfl⟩
  have n8 := blk_new w7 (.cells #[.string s] 9)
  rw [e8] at h n8
  obtain ⟨w9, e9⟩ : ∃ w9, w8.alloc (.cells #[.string ⟨#[10]⟩] 9) = w9 := ⟨_, rfl⟩
  have n9 := blk_new w8 (.cells #[.string ⟨#[10]⟩] 9)
  rw [e9] at h n9
  have n10 := blk_new w9 (.cells #[.int .i64 0] 3)
  rw [h] at n10
  have z4 : w4.heap.size = w.heap.size + 4 := by rw [← e4]; simp; omega
  have z5 : w5.heap.size = w.heap.size + 5 := by rw [← e5]; simp; omega
  have z6 : w6.heap.size = w.heap.size + 6 := by rw [← e6]; simp; omega
  have z7 : w7.heap.size = w.heap.size + 7 := by rw [← e7]; simp; omega
  have z8 : w8.heap.size = w.heap.size + 8 := by rw [← e8]; simp; omega
  have z9 : w9.heap.size = w.heap.size + 9 := by rw [← e9]; simp; omega
  have z10 : W.heap.size = w.heap.size + 10 := by rw [← h]; simp; omega
  have up7 : ∀ {k : Nat} {ob : Obj}, w7.heap[k]? = some ob → W.heap[k]? = some ob := fun hk => keep _ h (keep _ e9 (keep _ e8 hk))
  have up3 : ∀ {k : Nat} {ob : Obj}, w3.heap[k]? = some ob → W.heap[k]? = some ob := fun hk => up7 (keep _ e7 (keep _ e6 (keep _ e5 (keep _ e4 hk))))
  rw [z1] at b1
  rw [z2] at c2
  rw [z3] at n4
  rw [z4] at n5
  rw [z5] at n6
  rw [z6] at n7
  rw [z7] at n8
  rw [z8] at n9
  rw [z9] at n10
  have hbel : Below w.heap.size w W := by
    have q1 : Below w.heap.size w w1 := by rw [← e1]; exact (Below.refl _ w).alloc (Nat.le_refl _) _
    have q2 : Below w.heap.size w w2 := by rw [← e2]; exact q1.alloc (by omega) _
    have q3 : Below w.heap.size w w3 := by rw [← e3]; exact q2.alloc (by omega) _
    have q4 : Below w.heap.size w w4 := by rw [← e4]; exact q3.alloc (by omega) _
    have q5 : Below w.heap.size w w5 := by rw [← e5]; exact q4.alloc (by omega) _
    have q6 : Below w.heap.size w w6 := by rw [← e6]; exact q5.alloc (by omega) _
    have q7 : Below w.heap.size w w7 := by rw [← e7]; exact q6.alloc (by omega) _
    have q8 : Below w.heap.size w w8 := by rw [← e8]; exact q7.alloc (by omega) _
    have q9 : Below w.heap.size w w9 := by rw [← e9]; exact q8.alloc (by omega) _
    rw [← h]
    exact q9.alloc (by omega) _
  refine ⟨⟨up3 b0, up3 b1, ⟨.slice none 0 0, ⟨up3 c2, Kd.R_nil _ _ _ _ _, by omega, by simp [t0], by simp [t0], by simp [t0], by simp [t0], by simp [t0]⟩⟩, up7 (keep _ e7 (keep _ e6 (keep _ e5 n4))), up7 (keep _ e7 (keep _ e6 n5)), up7 (keep _ e7 n6), up7 n7,
    ⟨_, keep _ h (keep _ e9 n8)⟩, ⟨_, keep _ h n9⟩, ⟨_, n10⟩, hbel⟩, keep _ h (keep _ e9 n8), keep _ h n9, n10, z10⟩

/-- what Parse answers -/
def ParsePost (o : M ⊕ Int) (w : World) (e : Ending) (w' : World) : Prop :=
  match o with
  | .inl m => ∃ v, e = .returned (.tuple #[.agg #[.int .i64 m.n, v], .int .i64 0, .int .i64 0]) ∧ Kd.R k50 50 w' w.heap.size (fun _ => True) v (m.arcs.map toS) ∧ Below w.heap.size w w'
  | .inr k => e = .returned (.tuple #[.agg #[.int .i64 0, .slice none 0 0], .int .i64 12, .int .i64 k]) ∧ Below w.heap.size w w'

end Go.Proofs.YtegikndkokemjaaDoor.PAll
