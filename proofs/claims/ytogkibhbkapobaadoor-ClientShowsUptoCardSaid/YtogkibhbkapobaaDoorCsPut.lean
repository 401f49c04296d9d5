/- By hand: client.put: a line behind what the builder holds. For every description and value of at most 1048576 bytes and every world. -/
import Derived.Test.YtogkibhbkapobaaDoorCsBld
import Derived.Test.YtogkibhbkapobaaDoorCsEv
import Derived.Test.YtogkibhbkapobaaDoorB64Ev
import Derived.Test.YtogkibhbkapobaaDoorBlk
import Derived.Lib.OthersKept
import Derived.Lib.AppendStr
set_option linter.unusedVariables false
set_option linter.unusedSimpArgs false
namespace Go.Proofs.YtogkibhbkapobaaDoor.CsPut
open Go.RowKit Go.Shelf Go.Proofs Go.Proofs.YtogkibhbkapobaaDoor.XA Go.Proofs.YtogkibhbkapobaaDoor.XV Go.Proofs.YtogkibhbkapobaaDoor.Blk Go.Proofs.YtogkibhbkapobaaDoor.Bld Go.Proofs.YtogkibhbkapobaaDoor.CsTab Go.Proofs.YtogkibhbkapobaaDoor.CsEv Go.Proofs.YtogkibhbkapobaaDoorW.PrintWords Go.Proofs.YtogkibhbkapobaaDoorW.PrintLast Go.Proofs.YtogkibhbkapobaaDoorW.PrintMore
/-- Block b is a builder that holds X; nothing of w0 has been touched. -/
structure Bd (w0 : World) (b : Nat) (X : ByteArray) (W : World) : Prop where
  is : Lib.IsBuilderF 44 5 w0.heap.size b (Lib.strCells X) W
  bel : Below w0.heap.size w0 W
def KP (b : Nat) (W W' : World) : Prop := Lib.OthersKept 5 (some b) W W' ∧ W.heap.size ≤ W'.heap.size
theorem KP.refl (b : Nat) (W : World) : KP b W W := ⟨Lib.OthersKept.refl _ _ _, Nat.le_refl _⟩
theorem KP.trans {b : Nat} {A B C : World} (h : KP b A B) (k : KP b B C) : KP b A C := ⟨h.1.trans k.1, Nat.le_trans h.2 k.2⟩
theorem KP.of {b : Nat} {W W' : World} (h : Below W.heap.size W W') : KP b W W' := ⟨fun k o hk _ _ => (h.block k (Array.getElem?_eq_some_iff.1 hk).1).trans hk, h.size⟩
/-- A block of another kind than bytes, that is not the builder's, stands. -/
theorem KP.at {b : Nat} {W W' : World} (h : KP b W W') {p : Nat} {cs : List Value} {t : TypeId} (hp : At W p cs t) (hne : p ≠ b) (ht : t ≠ 5) : At W' p cs t :=
  h.1 p _ hp (fun e => hne (Option.some.inj e)) (fun c fz e => ht (by injection e))
theorem strCells_append (a b : ByteArray) : Lib.strCells (a ++ b) = Lib.strCells a ++ Lib.strCells b := by
  unfold Lib.strCells
  rw [ByteArray.data_append, Array.toList_append, List.map_append]
theorem atF_on {T e : TypeId} {B b : Nat} {p : Value} {bs : List Value} {w w' : World} (h : Lib.BuilderAtF T e B b p bs w) (hb : Below w.heap.size w w') : Lib.BuilderAtF T e B b p bs w' := by
  have hlt := h.lt
  obtain ⟨hB, v, hv, hown, hne⟩ := h
  exact ⟨hB, v, (hb.block b hlt).trans hv, hown.kept (grown_below hb none) (by cases hq : v.ownBlock <;> simp), hne⟩
theorem Bd.on {w0 : World} {b : Nat} {X : ByteArray} {W W' : World} (h : Bd w0 b X W) (hb : Below W.heap.size W W') : Bd w0 b X W' :=
  ⟨h.is.elim (fun x => .inl (atF_on x hb)) (fun x => .inr (atF_on x hb)), h.bel.trans (hb.mono h.bel.size)⟩
theorem Bd.lt {w0 : World} {b : Nat} {X : ByteArray} {W : World} (h : Bd w0 b X W) : b < W.heap.size := h.is.elim (fun x => x.lt) (fun x => x.lt)
theorem wr_as (w0 W : World) (b : Nat) (X s : ByteArray) (h : Bd w0 b X W) (hz : X.size + s.size ≤ 140737488355328) :
    Calls Tryd.prog 10 #[.pointer (some ⟨b, 0, none⟩), .string s] W fun e w' => e = .returned (.tuple #[.int .i64 s.size, .nilIface]) ∧ Bd w0 b (X ++ s) w' ∧ KP b W w' := by
  refine (writeString_as w0.heap.size b (Lib.strCells X) s W h.is (by rw [Lib.strCells_length]; exact hz) h.bel.size).mono ?_
  rintro e w' ⟨rfl, q1, q2, q3⟩
  exact ⟨rfl, ⟨.inr (by rw [strCells_append]; exact q1), h.bel.trans q2⟩, q3, q2.size⟩
theorem plain_as (v : ByteArray) (hv : v.size ≤ 1048576) (W : World) : Calls Tryd.prog 19 #[.string v] W fun e w' => e = .returned (.bool (plainB v)) ∧ Below W.heap.size W w' :=
  text_Plain.calls v (plainB v) W (plain_is v (by omega)).1
theorem base64_as (v : ByteArray) (hv : v.size ≤ 1048576) (W : World) (hT : Tabs W) : Calls Tryd.prog 20 #[.string v] W fun e w' => e = .returned (.string (b64B v)) ∧ Below W.heap.size W w' := by
  obtain ⟨k, hk⟩ := (B64Ev.base64_at v (by omega)).rounds
  exact text_Base64.calls k v _ W hT.t1 hk
set_option maxHeartbeats 2000000 in
set_option maxRecDepth 100000 in
theorem put_as (w0 W : World) (b : Nat) (X d v : ByteArray) (hT : Tabs w0) (h : Bd w0 b X W) (hz : X.size ≤ 70368744177664) (hd : d.size ≤ 1048576) (hv : v.size ≤ 1048576) :
    Calls Tryd.prog 12 #[.pointer (some ⟨b, 0, none⟩), .string d, .string v] W fun e w' => e = .returned (.tuple #[]) ∧ Bd w0 b (X ++ lineB d v) w' ∧ KP b W w' := by
  have HT := Lib.hid hT
  have HB := Lib.hid h
  have hb4 := b64B_size v
  clear h hT
  by_cases h0 : v.toList = ([] : List UInt8)
  · have e0 : (v.toList == ([] : List UInt8)) = true := beq_iff_eq.2 h0
    have e1 : v.toList.isEmpty = true := by rw [h0]; rfl
    have hl : X ++ lineB d v = (X ++ d) ++ ⟨#[58, 10]⟩ := by
      unfold lineB
      rw [if_pos h0, ByteArray.append_assoc]
    rw [hl]
    clear h0 hl
    go_enter Tryd.func12, Tryd.ntmps12
    go_wp2_with (first
      | (go_at_call 10; (first
          | ((with_reducible refine (wr_as w0 _ b X d HB.out ?hz).mono ?_); (case hz => omega); rintro e W1 ⟨rfl, q1, q2⟩; have H1 := Lib.hid (And.intro q1 q2); clear q1 q2)
          | ((with_reducible refine (wr_as w0 _ b (X ++ d) ⟨#[58, 10]⟩ H1.out.1 ?hz).mono ?_); (case hz => simp only [ByteArray.size_append, sz, List.length_cons, List.length_nil]; omega); rintro e W2 ⟨rfl, q1, q2⟩; have H2 := Lib.hid (And.intro q1 (H1.out.2.trans q2)); clear q1 q2)))
      | go_in)
    go_end0
    exact ⟨rfl, H2.out⟩
  · have e0 : (v.toList == ([] : List UInt8)) = false := beq_eq_false_iff_ne.2 h0
    have e1 : v.toList.isEmpty = false := by simpa using e0
    by_cases hp : plainB v = true
    · have hl : X ++ lineB d v = (X ++ d) ++ ((⟨#[58, 32]⟩ ++ v) ++ ⟨#[10]⟩) := by
        unfold lineB
        rw [if_neg h0, if_pos hp]
        simp only [ByteArray.append_assoc]
      rw [hl]
      have z1 : (⟨#[58, 32]⟩ : ByteArray).size + v.size ≤ 9223372036854775807 := by rw [sz]; simp only [List.length_cons, List.length_nil]; omega
      clear h0 hl
      go_enter Tryd.func12, Tryd.ntmps12
      go_wp2_with (first
        | (go_at_call 10; (first
            | ((with_reducible refine (wr_as w0 _ b X d HB.out ?hz).mono ?_); (case hz => omega); rintro e W1 ⟨rfl, q1, q2⟩; have H1 := Lib.hid (And.intro q1 q2); clear q1 q2)
            | ((with_reducible refine (wr_as w0 _ b (X ++ d) ((⟨#[58, 32]⟩ ++ v) ++ ⟨#[10]⟩) H2.out.1 ?hz).mono ?_); (case hz => simp only [ByteArray.size_append, sz, List.length_cons, List.length_nil]; omega); rintro e W3 ⟨rfl, q1, q2⟩; have H3 := Lib.hid (And.intro q1 (H2.out.2.trans q2)); clear q1 q2)))
        | (go_at_call 19; ((with_reducible refine (plain_as v hv _).mono ?_); rintro e W2 ⟨rfl, q2⟩; have H2 := Lib.hid (And.intro (H1.out.1.on q2) (H1.out.2.trans (KP.of q2))); clear q2; simp only [hp]))
        | go_in)
      go_end0
      exact ⟨rfl, H3.out⟩
    · have hp' : plainB v = false := by simpa using hp
      have hl : X ++ lineB d v = (X ++ d) ++ ((⟨#[58, 58, 32]⟩ ++ b64B v) ++ ⟨#[10]⟩) := by
        unfold lineB
        rw [if_neg h0, if_neg hp]
        simp only [ByteArray.append_assoc]
      rw [hl]
      clear h0 hl hp
      go_enter Tryd.func12, Tryd.ntmps12
      go_wp2_with (first
        | (go_at_call 10; (first
            | ((with_reducible refine (wr_as w0 _ b X d HB.out ?hz).mono ?_); (case hz => omega); rintro e W1 ⟨rfl, q1, q2⟩; have H1 := Lib.hid (And.intro q1 q2); clear q1 q2)
            | ((with_reducible refine (wr_as w0 _ b (X ++ d) ((⟨#[58, 58, 32]⟩ ++ b64B v) ++ ⟨#[10]⟩) H3.out.1 ?hz).mono ?_); (case hz => simp only [ByteArray.size_append, sz, List.length_cons, List.length_nil]; omega); rintro e W4 ⟨rfl, q1, q2⟩; have H4 := Lib.hid (And.intro q1 (H3.out.2.trans q2)); clear q1 q2)))
        | (go_at_call 19; ((with_reducible refine (plain_as v hv _).mono ?_); rintro e W2 ⟨rfl, q2⟩; have H2 := Lib.hid (And.intro (H1.out.1.on q2) (H1.out.2.trans (KP.of q2))); clear q2; simp only [hp']))
        | (go_at_call 20; ((with_reducible refine (base64_as v hv _ (Tabs_at HT.out H2.out.1.bel)).mono ?_); rintro e W3 ⟨rfl, q2⟩; have H3 := Lib.hid (And.intro (H2.out.1.on q2) (H2.out.2.trans (KP.of q2))); clear q2))
        | go_in)
      go_end0
      exact ⟨rfl, H4.out⟩
end Go.Proofs.YtogkibhbkapobaaDoor.CsPut
