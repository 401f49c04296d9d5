/- TextNormalSteps, pure. -/
import Derived.Test.YtjkhdiphcgpbfaaQTextNormalSteps
import Derived.Test.YtjkhdiphcgpbfaaNormEv
namespace Go.Proofs.Ytjkhdiphcgpbfaa.Pure
open Go.RowKit Go.Proofs.Ytjkhdiphcgpbfaa.X Go.Proofs.Ytjkhdiphcgpbfaa.XV Go.Proofs.Ytjkhdiphcgpbfaa.NormEv Go.Proofs.Ytjkhdiphcgpbfaa.Norm Go.Proofs.YtjkhdiphcgpbfaaW.PrintWords Go.Proofs.YtjkhdiphcgpbfaaW.PrintLast
set_option linter.unusedVariables false
set_option linter.unusedSimpArgs false
theorem five : bytesOf (strOfNums [97, 32, 98]) = [97, 32, 98] := by decide +kernel
theorem nfive : strOfNums (nm (foldN (bytesOf (⟨#[32, 65, 9, 98, 32]⟩ : ByteArray)))) = (⟨#[97, 32, 98]⟩ : ByteArray) := by decide +kernel
theorem l_abc : (⟨#[97, 32, 98]⟩ : ByteArray).toList = ([97, 32, 98] : List UInt8) := by rw [toList_data]
theorem b9 : bytesOf (⟨#[9]⟩ : ByteArray) = [9] := by decide +kernel
theorem b32 : bytesOf (⟨#[32]⟩ : ByteArray) = [32] := by decide +kernel
theorem b3232 : bytesOf (⟨#[32, 32]⟩ : ByteArray) = [32, 32] := by decide +kernel
theorem s9 : (⟨#[9]⟩ : ByteArray).size = 1 := rfl
theorem s32 : (⟨#[32]⟩ : ByteArray).size = 1 := rfl
theorem s3232 : (⟨#[32, 32]⟩ : ByteArray).size = 2 := rfl
theorem fold_app (x y : List Int) : foldN (x ++ y) = foldN x ++ foldN y := by simp [foldN]

/-- Two texts with blanks between. -/
theorem n_two (x y : List Int) : nm (foldN (x ++ 9 :: y)) = if nm (foldN x) = [] ∨ nm (foldN y) = [] then nm (foldN x) ++ nm (foldN y) else nm (foldN x) ++ 32 :: nm (foldN y) := by
  rw [fold_app, show foldN (9 :: y) = 9 :: foldN y from rfl]
  exact nm_two _ _ _ (by decide)
theorem n_two2 (x y : List Int) : nm (foldN (x ++ 32 :: 32 :: y)) = if nm (foldN x) = [] ∨ nm (foldN y) = [] then nm (foldN x) ++ nm (foldN y) else nm (foldN x) ++ 32 :: nm (foldN y) := by
  rw [fold_app, show foldN (32 :: 32 :: y) = 32 :: 32 :: foldN y from rfl, nm_two _ _ _ (by decide), nm_blank (by decide)]

theorem TextNormalSteps : QTextNormalSteps.Pure := by
  intro a b ha hb hk
  have hsa : a.size ≤ 1048576 := by omega
  have hsb : b.size ≤ 1048576 := by omega
  have ra := rng_nm (rng_fold (bytesOf_range a))
  have rb := rng_nm (rng_fold (bytesOf_range b))
  have ea := bytesOf_nums _ ra
  have eb := bytesOf_nums _ rb
  have la := nm_len (foldN (bytesOf a))
  have lb := nm_len (foldN (bytesOf b))
  rw [show (foldN (bytesOf a)).length = a.size from by simp [foldN, bytesOf_length], ← strOfNums_size] at la
  rw [show (foldN (bytesOf b)).length = b.size from by simp [foldN, bytesOf_length], ← strOfNums_size] at lb
  have na := normal_at a ha
  have nb := normal_at b hb
  refine Ev.rounds (g := fun k => rosterlaw01_TextNormalSteps.f k a b) ?_
  simp only [rosterlaw01_TextNormalSteps.f]
  refine Ev.bind na (Ev.bind (normal_at _ (by decide)) ?_)
  rw [nfive]
  refine ev_pos l_abc ?_
  have key : ∀ (x : ByteArray) (l : List Int), bytesOf x = l → nm (foldN l) = nm (foldN (bytesOf a)) → x.size ≤ 1048576 → Ev (fun k => text_Normal.f k x) (strOfNums (nm (foldN (bytesOf a)))) := by
    intro x l hx hl hz
    have := normal_at x (by omega)
    rw [hx, hl] at this
    exact this
  have hfn : nm (foldN (nm (foldN (bytesOf a)))) = nm (foldN (bytesOf a)) := by rw [fold_nm, fold_fold, nm_nm]
  have k1 := key (strOfNums (nm (foldN (bytesOf a)))) _ ea hfn (by omega)
  have k2 := fold_at (strOfNums (nm (foldN (bytesOf a)))) (by omega)
  rw [ea, fold_nm, fold_fold] at k2
  have k3 := col_at (strOfNums (nm (foldN (bytesOf a)))) (by omega)
  rw [ea, col_nm] at k3
  have k4 := squeeze_at (strOfNums (nm (foldN (bytesOf a)))) (by omega)
  rw [ea, nm_nm] at k4
  have hra := bytesOf_range a
  have k5 := fold_at a (by omega)
  have k6 := key (strOfNums (foldN (bytesOf a))) _ (bytesOf_nums _ (rng_fold hra)) (by rw [fold_fold]) (by rw [strOfNums_size]; simp [foldN, bytesOf_length]; omega)
  have k7 := col_at a ha
  have k8 := key (strOfNums (colL false (bytesOf a))) _ (bytesOf_nums _ (rng_col _ hra)) (by rw [fold_col, nm_col]) (by rw [strOfNums_size]; have := col_len (bytesOf a) false; rw [bytesOf_length] at this; omega)
  have k9 := squeeze_at a ha
  have hq : nm (foldN (nm (bytesOf a))) = nm (foldN (bytesOf a)) := by rw [fold_nm, nm_nm]
  have hql : (strOfNums (nm (bytesOf a))).size ≤ 1048576 := by rw [strOfNums_size]; have := nm_len (bytesOf a); rw [bytesOf_length] at this; omega
  have k10 := key (strOfNums (nm (bytesOf a))) _ (bytesOf_nums _ (rng_nm hra)) hq hql
  have k11 := fold_at (strOfNums (nm (bytesOf a))) (by omega)
  rw [bytesOf_nums _ (rng_nm hra), fold_nm] at k11
  have k12 := normal_at ((a ++ (⟨#[9]⟩ : ByteArray)) ++ b) (by simp [ByteArray.size_append, s9]; omega)
  rw [bytesOf_append, bytesOf_append, b9, List.append_assoc, List.singleton_append, n_two] at k12
  have k13 := normal_at ((a ++ (⟨#[32, 32]⟩ : ByteArray)) ++ b) (by simp [ByteArray.size_append, s3232]; omega)
  rw [bytesOf_append, bytesOf_append, b3232, List.append_assoc, show ([32, 32] : List Int) ++ bytesOf b = 32 :: 32 :: bytesOf b from rfl, n_two2] at k13
  have e0 : nm (foldN (bytesOf a)) = [] ↔ (strOfNums (nm (foldN (bytesOf a)))).size = 0 := by rw [strOfNums_size, List.length_eq_zero_iff]
  have e1 : nm (foldN (bytesOf b)) = [] ↔ (strOfNums (nm (foldN (bytesOf b)))).size = 0 := by rw [strOfNums_size, List.length_eq_zero_iff]
  have w1 : strOfNums (nm (foldN (bytesOf a)) ++ nm (foldN (bytesOf b))) = strOfNums (nm (foldN (bytesOf a))) ++ strOfNums (nm (foldN (bytesOf b))) := bytesOf_inj (by rw [bytesOf_append, ea, eb, bytesOf_nums]; intro x hx; rcases List.mem_append.1 hx with h | h; exact ra x h; exact rb x h)
  have w2 : strOfNums (nm (foldN (bytesOf a)) ++ 32 :: nm (foldN (bytesOf b))) = (strOfNums (nm (foldN (bytesOf a))) ++ (⟨#[32]⟩ : ByteArray)) ++ strOfNums (nm (foldN (bytesOf b))) := bytesOf_inj (by
    rw [bytesOf_append, bytesOf_append, ea, eb, b32, bytesOf_nums]
    · simp
    · intro x hx
      rcases List.mem_append.1 hx with h | h
      · exact ra x h
      · rcases List.mem_cons.1 h with rfl | h
        · decide
        · exact rb x h)
  refine Ev.bind k1 (ev_pos rfl ?_)
  rw [k2]
  simp only [Option.bind_some]
  refine ev_pos trivial (Ev.bind k3 (ev_pos rfl (Ev.bind k4 ?_)))
  generalize hN : strOfNums (nm (foldN (bytesOf a))) = n at *
  generalize hM : strOfNums (nm (foldN (bytesOf b))) = m at *
  simp only [bne_self_eq_false]
  refine ev_round ?_
  simp only [rosterlaw01_TextNormalSteps.j0, k5, Option.bind_some]
  refine ev_neg (by decide) (Ev.bind k6 (ev_pos rfl (Ev.bind k7 (Ev.bind k8 (ev_pos rfl (Ev.bind k9 (Ev.bind k10 (ev_pos rfl (Ev.bind k9 ?_)))))))))
  rw [k11]
  simp only [Option.bind_some, bne_self_eq_false]
  refine ev_round ?_
  simp only [rosterlaw01_TextNormalSteps.j1]
  refine ev_neg (by decide) (Ev.bind nb (ev_pos (by omega) (ev_pos (by rw [ByteArray.size_append, s32]; omega) ?_)))
  have fin : ∀ c : Bool, (c = true ↔ n.size = 0 ∨ m.size = 0) → Ev (fun k => rosterlaw01_TextNormalSteps.j2 k a b n m ((n ++ (⟨#[32]⟩ : ByteArray)) ++ m) c) true := by
    intro c hc
    refine ev_round ?_
    simp only [rosterlaw01_TextNormalSteps.j2]
    by_cases h : c = true
    · rw [if_pos ((hc.1 h).imp e0.2 e1.2), w1] at k12 k13
      exact ev_pos h (ev_pos (by omega) (ev_pos (by omega) (ev_pos (by rw [ByteArray.size_append, s9]; omega) (Ev.bind k12 (ev_pos rfl (ev_pos (by omega) (ev_pos (by rw [ByteArray.size_append, s3232]; omega) (Ev.bind k13 (ev_eq (by simp))))))))))
    · rw [if_neg (fun z => h (hc.2 (z.imp e0.1 e1.1))), w2] at k12 k13
      exact ev_neg h (ev_pos (by omega) (ev_pos (by rw [ByteArray.size_append, s9]; omega) (Ev.bind k12 (ev_pos rfl (ev_pos (by omega) (ev_pos (by rw [ByteArray.size_append, s3232]; omega) (Ev.bind k13 (ev_eq (by simp)))))))))
  by_cases h0 : n.size = 0
  · exact ev_pos ((empty_iff n).2 h0) (fin true ⟨fun _ => Or.inl h0, fun _ => rfl⟩)
  · refine ev_neg (fun z => h0 ((empty_iff n).1 z)) (fin _ ?_)
    rw [beq_iff_eq, empty_iff]
    omega
end Go.Proofs.Ytjkhdiphcgpbfaa.Pure
