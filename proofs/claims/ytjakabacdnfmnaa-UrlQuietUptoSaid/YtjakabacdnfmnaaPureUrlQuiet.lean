/- UrlQuiet, pure: Unescape of Escape, what Escape writes. For texts of bulk at most 1048576. -/
import Derived.Test.YtjakabacdnfmnaaQUrlQuiet
import Derived.Test.YtjakabacdnfmnaaUrlEv
namespace Go.Proofs.Ytjakabacdnfmnaa.Pure
open Go.RowKit Go.Proofs.Ytjakabacdnfmnaa.XU Go.Proofs.Ytjakabacdnfmnaa.XV Go.Proofs.Ytjakabacdnfmnaa.UrlD Go.Proofs.Ytjakabacdnfmnaa.UrlW Go.Proofs.Ytjakabacdnfmnaa.UrlEv Go.Proofs.YtjakabacdnfmnaaW.PrintWords Go.Proofs.YtjakabacdnfmnaaW.PrintLast
theorem UrlQuiet : QUrlQuiet.Pure := by
  intro x0 f0 hb
  have hr := UrlW.bytesOf_range' x0
  have he := escI_range _ hr
  have hle := escI_len (bytesOf x0)
  rw [bytesOf_length] at hle
  have ht : bytesOf (strOfNums (escI (bytesOf x0))) = escI (bytesOf x0) := bytesOf_nums _ he
  have hts : (strOfNums (escI (bytesOf x0))).size = (escI (bytesOf x0)).length := by rw [← bytesOf_length, ht]
  refine Ev.rounds ?_
  simp only [rosterlaw18_UrlQuiet.f]
  rw [esc_at x0 (by omega)]
  simp only [Option.bind_some]
  rw [une_at _ (by omega)]
  simp only [Option.bind_some]
  have hu : unR (bytesOf (strOfNums (escI (bytesOf x0)))) = (x0, 0, 0) := by
    unfold unR
    rw [ht, unx_esc _ _ hr]
    show (strOfNums (bytesOf x0), (0 : Int), (0 : Int)) = _
    rw [bytesOf_inj (a := strOfNums (bytesOf x0)) (b := x0) (bytesOf_nums _ hr)]
  rw [hu]
  refine ev_pos rfl (ev_pos rfl (ev_round ?_))
  simp only [rosterlaw18_UrlQuiet.j0]
  refine ev_neg (by simp) ?_
  refine ql0_loop x0 (strOfNums (escI (bytesOf x0))) true (by omega) (fun n hn => ?_) x0.size 0 0 (by omega) (by omega) (by omega) (by simp)
  refine ql1_loop x0 (strOfNums (escI (bytesOf x0))) n true (by omega) (fun x hx => esc_quiet _ hr x (by rw [← ht]; exact hx)) (by omega) ?_ (strOfNums (escI (bytesOf x0))).size 0 (by omega)
  have h2 : ((strOfNums (escI (bytesOf x0))).toList == x0.toList) = (n == (x0.size : Int)) := by
    rw [Bool.eq_iff_iff, beq_iff_eq, beq_iff_eq, toList_eq_iff]
    constructor
    · intro h
      rw [hn, ← hts, h]
    · intro h
      refine bytesOf_inj ?_
      rw [ht]
      refine (escI_ge _).2 ?_
      rw [bytesOf_length]
      omega
  rw [h2]
  simp
end Go.Proofs.Ytjakabacdnfmnaa.Pure
