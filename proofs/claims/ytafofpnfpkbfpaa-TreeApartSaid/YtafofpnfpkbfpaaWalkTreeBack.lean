/- The law TreeBack returns true at every input: its walk over the contracts of tree.Encode and Decode. No condition. -/
import Derived.Test.YtafofpnfpkbfpaaTree6
namespace Go.Proofs.Ytafofpnfpkbfpaa
open Go.RowKit Go.CP

theorem u8i_small (n : Nat) : (u8i (n : Int)).toNat = n % 256 := by
  have := u8i_toNat n
  omega
theorem ptr_range {n : Int} (h : ptrB n = true) : 0 ≤ n ∧ n < 1024 := by
  simp [ptrB] at h
  omega
theorem badB_all {l : List Int} (h : badB l = false) : ∀ x ∈ l, 0 ≤ x ∧ x < 1024 := by
  intro x hx
  unfold badB at h
  rw [List.any_eq_false] at h
  have := h x hx
  exact ptr_range (by simpa using this)
theorem enc2_get {l : List Int} {i : Nat} {x : Int} (h : l[i]? = some x) : (enc2 l)[2 * i]? = some (u8i x) ∧ (enc2 l)[2 * i + 1]? = some (u8i (x / 256)) := by
  induction l generalizing i with
  | nil => simp at h
  | cons y l ih =>
    cases i with
    | zero => simp at h; subst h; simp [enc2]
    | succ i =>
      simp at h
      have := ih h
      rw [show 2 * (i + 1) = 2 * i + 2 from by omega, show 2 * i + 2 + 1 = 2 * i + 1 + 2 from by omega]
      simpa [enc2] using this
theorem dec_enc (l : List Int) (h8 : l.length = 8) (h : badB l = false) : decP (encP l) 8 = l := by
  apply List.ext_getElem
  · rw [decP_len, h8]
  · intro i h1 h2
    have hx : l[i]? = some l[i] := by simp [h2]
    have hr := badB_all h l[i] (List.getElem_mem h2)
    obtain ⟨g1, g2⟩ := enc2_get hx
    have hlen := enc2_len l
    have e1 : (encP l).getD (2 * i) 0 = u8i l[i] := by
      rw [encP, List.getD_eq_getElem?_getD, List.getElem?_append_left (by omega), g1]; rfl
    have e2 : (encP l).getD (2 * i + 1) 0 = u8i (l[i] / 256) := by
      rw [encP, List.getD_eq_getElem?_getD, List.getElem?_append_left (by omega), g2]; rfl
    simp only [decP, List.getElem_map, List.getElem_range, dec2, e1, e2, u8i_toNat]
    omega
theorem dec_ok (l : List Int) (h8 : l.length = 8) (h : badB l = false) : decOk (encP l) = true := by
  simp [decOk, dec_enc l h8 h, h]

set_option maxRecDepth 100000 in
theorem treeBack_walk (w : World) (A : Option Addr) (l : List Int) (c : Nat) (ha : Ints w A l) (_ : ∀ n ∈ l, -9223372036854775808 ≤ n ∧ n < 9223372036854775808) (_ : l.length ≤ c) (hl : l.length ≤ 140737488351232) :
    Calls Try.prog 5 #[.slice A l.length c] w fun e w' => e = .returned (.bool true) ∧ Below w.heap.size w w' := by
  by_cases h : l.length = 8 ∧ badB l = false
  · obtain ⟨h8, hbad⟩ := h
    have he := encode_ok A l c w ha h8 hbad
    have HOK := hid (dec_ok l h8 hbad)
    have HDE := hid (dec_enc l h8 hbad)
    have H8 := hid h8
    have HEL := hid (encP_len l h8)
    clear hbad h8
    go_enter Try.func5, Try.ntmps5
    go_wp2_with fail
    refine he.mono ?_
    clear he
    rintro e w1 ⟨A1, c1, rfl, ho1, hb1⟩
    go_wp2_with fail
    refine (awake11_any _).mono ?_
    rintro e w2 ⟨rfl, hb2⟩
    have hb02 := hb1.trans (hb2.mono hb1.size)
    have hd := decode_one A1 (encP l) c1 w2 (ho1.cells.below hb2 (Nat.le_refl _)) HEL.out
    rw [HEL.out] at hd
    go_wp2_with fail
    refine hd.mono ?_
    clear hd
    rintro e w3 (⟨-, A3, c3, rfl, ho3, hb3⟩ | ⟨h, -, -⟩)
    case inr => rw [HOK.out] at h; cases h
    rw [HDE.out] at ho3
    have hb03 := hb02.trans (hb3.mono hb02.size)
    have hi := ints_same A3 A l l c3 c w3 ho3.cells (ha.below hb03 (Nat.le_refl _)) rfl hl
    rw [H8.out, decide_eq_true rfl] at hi
    have HI := hid hi
    clear hi
    have hl8 : l.length = 8 := H8.out
    go_wp2_with (go_at_call 15; refine HI.out.mono ?_; rintro e w4 ⟨rfl, hb4⟩)
    go_ret
    exact ⟨rfl, hb03.trans (hb4.mono hb03.size)⟩
  · have he := encode_err A l c w ha hl (by
      by_cases h8 : l.length = 8
      · right
        cases hb : badB l with
        | true => rfl
        | false => exact absurd ⟨h8, hb⟩ h
      · exact .inl h8)
    clear h
    go_enter Try.func5, Try.ntmps5
    go_wp2_with fail
    refine he.mono ?_
    clear he
    rintro e w ⟨rfl, rfl⟩
    go_wp2_with fail
    refine (awake11_any _).mono ?_
    rintro e w2 ⟨rfl, hb2⟩
    go_wp2_with fail
    refine (awake11_any _).mono ?_
    rintro e w3 ⟨rfl, hb3⟩
    go_wp2
    go_ret
    exact ⟨rfl, hb2.trans (hb3.mono hb2.size)⟩
end Go.Proofs.Ytafofpnfpkbfpaa
