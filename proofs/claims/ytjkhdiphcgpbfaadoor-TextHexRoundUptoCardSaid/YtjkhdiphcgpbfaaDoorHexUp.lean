/- Hex digits some of which are written large, on lists of byte numbers: a reader of hex digits gives the same; a digit more is refused behind the whole. No program. -/
import Derived.Test.YtjkhdiphcgpbfaaDoorHexEv
namespace Go.Proofs.YtjkhdiphcgpbfaaDoor.HexUp
open Go.RowKit Go.Proofs.YtjkhdiphcgpbfaaDoor.X Go.Proofs.YtjkhdiphcgpbfaaDoor.XE Go.Proofs.YtjkhdiphcgpbfaaDoor.XG Go.Proofs.YtjkhdiphcgpbfaaDoor.XV Go.Proofs.YtjkhdiphcgpbfaaDoor.Norm Go.Proofs.YtjkhdiphcgpbfaaDoor.HexEv Go.Proofs.YtjkhdiphcgpbfaaDoorW.PrintWords Go.Proofs.YtjkhdiphcgpbfaaDoorW.PrintLast
set_option linter.unusedVariables false
set_option linter.unusedSimpArgs false
/-- Is it a hex digit as Hex writes it? -/
def DigC (c : Int) : Prop := (48 ≤ c ∧ c ≤ 57) ∨ (97 ≤ c ∧ c ≤ 102)
def upC (u : Bool) (c : Int) : Int := if u = true ∧ 97 ≤ c then c - 32 else c
def upAt (us : List Bool) (l : List Int) (j : Nat) : Int := upC (us.getD j false) (l.getD j 0)
def upL (us : List Bool) (l : List Int) : List Int := (List.range l.length).map (upAt us l)
theorem upL_length (us : List Bool) (l : List Int) : (upL us l).length = l.length := by simp [upL]
theorem upL_getD (us : List Bool) (l : List Int) (j : Nat) (h : j < l.length) : (upL us l).getD j 0 = upAt us l j := by
  simp [upL, List.getD_eq_getElem?_getD, List.getElem?_map, List.getElem?_range h]
theorem upC_worth (u : Bool) (c : Int) (h : DigC c) : worth (upC u c) = worth c := by
  unfold upC
  split
  · rename_i hu
    rcases h with h | h
    · omega
    · unfold worth
      rw [if_neg (by omega), if_neg (by omega), if_pos (by omega), if_neg (by omega), if_pos (by omega)]
      congr 1
      omega
  · rfl
theorem upC_rng (u : Bool) (c : Int) (h : DigC c) : 0 ≤ upC u c ∧ upC u c ≤ 255 := by
  unfold upC
  rcases h with h | h <;> split <;> omega
theorem dig_hexd (n : Int) (h : 0 ≤ n) (h2 : n < 16) : DigC (hexd n) := by unfold DigC hexd; split <;> omega
theorem dig_hex : ∀ {l : List Int}, Rng l → ∀ x ∈ hexN l, DigC x
  | [], _ => by intro x hx; simp [hexN] at hx
  | b :: r, h => by
    obtain ⟨hb, hr⟩ := rng_cons h
    intro x hx
    simp only [hexN, List.mem_cons] at hx
    rcases hx with rfl | rfl | hx
    · exact dig_hexd _ (by omega) (by omega)
    · exact dig_hexd _ (by omega) (by omega)
    · exact dig_hex hr x hx
theorem dig_at {l : List Int} (h : ∀ x ∈ l, DigC x) (j : Nat) (hj : j < l.length) : DigC (l.getD j 0) := by
  rw [List.getD_eq_getElem?_getD, List.getElem?_eq_getElem hj]
  exact h _ (List.getElem_mem hj)
theorem upL_worth (us : List Bool) (l : List Int) (h : ∀ x ∈ l, DigC x) : (upL us l).map worth = l.map worth := by
  apply List.ext_getElem
  · simp [upL]
  · intro i h1 h2
    have hi : i < l.length := by simpa using h2
    have hd := dig_at h i hi
    have e : l.getD i 0 = l[i] := by simp [List.getD_eq_getElem?_getD, List.getElem?_eq_getElem hi]
    simp only [List.getElem_map, upL, List.getElem_range, upAt]
    rw [upC_worth _ _ hd, e]
theorem upL_rng (us : List Bool) (l : List Int) (h : ∀ x ∈ l, DigC x) : Rng (upL us l) := by
  intro x hx
  simp only [upL, List.mem_map, List.mem_range] at hx
  obtain ⟨j, hj, rfl⟩ := hx
  exact upC_rng _ _ (dig_at h j hj)
theorem worth7 : worth 55 = some 7 := by decide
theorem unL_like : ∀ (l l' : List Int) (h : Int) (acc : List Int) (pos : Int), Rng l → l'.map worth = (hexN l).map worth →
    unL false h acc pos l' = (acc ++ l, 0, pos + 2 * l.length) ∧ unL false h acc pos (l' ++ [55]) = ([], 11, pos + 2 * l.length + 1)
  | [], l', h, acc, pos, _, he => by
    have : l' = [] := by simpa [hexN] using he
    subst this
    simp [unL, worth7]
  | b :: r, l', h, acc, pos, hr, he => by
    obtain ⟨hb, hr'⟩ := rng_cons hr
    match l', he with
    | [], he => simp [hexN] at he
    | [x], he => simp [hexN] at he
    | x :: y :: l', he =>
      simp only [hexN, List.map_cons, List.cons.injEq] at he
      obtain ⟨h1, h2, h3⟩ := he
      rw [worth_hexd _ (by omega) (by omega)] at h1 h2
      obtain ⟨i1, i2⟩ := unL_like r l' (b / 16) (acc ++ [16 * (b / 16) + b % 16]) (pos + 1 + 1) hr' h3
      simp only [List.cons_append, unL, h1, h2]
      simp only [if_true, if_false, Bool.false_eq_true]
      rw [i1, i2, show 16 * (b / 16) + b % 16 = b from by omega]
      simp
      omega
theorem nums_of (s : ByteArray) : strOfNums (bytesOf s) = s := bytesOf_inj (bytesOf_nums _ (bytesOf_range s))
/-- What Unhex answers of the digits, some written large; and with one more. -/
theorem unhex_up (s : ByteArray) (hs : s.size ≤ 1048576) (us : List Bool) : Ev (fun k => text_Unhex.f k (strOfNums (upL us (hexN (bytesOf s))))) (s, 0, 2 * (s.size : Int)) ∧
    Ev (fun k => text_Unhex.f k (strOfNums (upL us (hexN (bytesOf s))) ++ ⟨#[55]⟩)) (⟨#[]⟩, 11, 2 * (s.size : Int) + 1) := by
  have hd := dig_hex (bytesOf_range s)
  have hl : (upL us (hexN (bytesOf s))).length = 2 * s.size := by rw [upL_length, hex_len, bytesOf_length]
  have hu := upL_rng us _ hd
  obtain ⟨e1, e2⟩ := unL_like (bytesOf s) (upL us (hexN (bytesOf s))) 0 [] 0 (bytesOf_range s) (upL_worth us _ hd)
  have h1 := unhex_at (strOfNums (upL us (hexN (bytesOf s)))) (by rw [strOfNums_size, hl]; omega)
  have h2 := unhex_at (strOfNums (upL us (hexN (bytesOf s))) ++ ⟨#[55]⟩) (by rw [ByteArray.size_append, strOfNums_size, hl]; show _ + 1 ≤ _; omega)
  rw [bytesOf_nums _ hu, e1] at h1
  rw [bytesOf_append, bytesOf_nums _ hu, show bytesOf (⟨#[55]⟩ : ByteArray) = [55] from rfl, e2] at h2
  constructor
  · have : outp ([] ++ bytesOf s, 0, 0 + 2 * ((bytesOf s).length : Int)) = (s, 0, 2 * (s.size : Int)) := by
      unfold outp
      rw [List.nil_append, nums_of, bytesOf_length]
      simp
    rwa [this] at h1
  · have : outp (([] : List Int), (11 : Int), 0 + 2 * ((bytesOf s).length : Int) + 1) = (⟨#[]⟩, 11, 2 * (s.size : Int) + 1) := by
      unfold outp
      rw [← empty_nums, bytesOf_length]
      simp
    rwa [this] at h2
end Go.Proofs.YtjkhdiphcgpbfaaDoor.HexUp
