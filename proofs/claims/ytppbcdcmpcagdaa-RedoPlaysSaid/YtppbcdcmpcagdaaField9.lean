/- Contract of the reference's Open; frames over whatever body. -/
import Derived.Test.YtppbcdcmpcagdaaWalkFieldApart
import Derived.Test.YtppbcdcmpcagdaaWalkFieldBehind
import Derived.Test.YtppbcdcmpcagdaaCrc
import Derived.Lib.PathFns
import Derived.Deep.RegionHeld3
import Derived.WideShapes
namespace Go.Proofs.Ytppbcdcmpcagdaa
open Go.RowKit Go.CP


/-- What the reference's Frame hands back. -/
def RetRFrame (tag : UInt8) (l : List UInt8) (w : World) (e : Ending) (w' : World) : Prop :=
  Below w.heap.size w w' ∧ ((l.length ≤ 65535 ∧ e = .returned (.tuple #[.string (bstr (frameL tag l)), .int .i64 0])) ∨ (65535 < l.length ∧ e = .returned (.tuple #[.string (bstr []), .int .i64 17])))
theorem rframe_any (tag : UInt8) (s : ByteArray) (w : World) : Calls Try.prog 52 #[bv tag, .string s] w (RetRFrame tag s.data.toList w) := by
  have hz : s.data.toList.length = s.size := rfl
  by_cases h : s.size ≤ 65535
  · exact (rframe_ok tag s w h).mono fun e w' ⟨h1, h2⟩ => ⟨h2, .inl ⟨by omega, h1⟩⟩
  · exact (rframe_err _ s w (by omega)).mono fun e w' ⟨h1, h2⟩ => ⟨by rw [h2]; exact Below.refl _ _, .inr ⟨by omega, h1⟩⟩

/-- What the reference's Open hands back. -/
def RetROpen (b : List UInt8) (w : World) (e : Ending) (w' : World) : Prop :=
  Below w.heap.size w w' ∧ ((openE b = 0 ∧ ∃ t, b[0]? = some t ∧ e = .returned (.tuple #[bv t, .string (bstr (bodyL b)), .int .i64 0])) ∨
  (openE b ≠ 0 ∧ e = .returned (.tuple #[.int .u8 0, .string (bstr []), .int .i64 (openE b : Nat)])))

theorem ext_bstr (s : ByteArray) (a b : Nat) : s.extract a b = bstr ((s.data.toList.drop a).take (b - a)) := by
  apply ByteArray.ext
  rw [ByteArray.data_extract]
  apply Array.toList_inj.1
  simp [List.take_drop, Array.toList_extract]

set_option maxHeartbeats 1000000 in
set_option maxRecDepth 100000 in
theorem ropen_any (s : ByteArray) (w : World) (hs : s.size ≤ 140737488351232) : Calls Try.prog 54 #[.string s] w (RetROpen s.data.toList w) := by
  have hz : s.data.toList.length = s.size := rfl
  by_cases h7 : s.size < 7
  · have he : openE s.data.toList = 3 := if_pos (by omega)
    have HE := hid he
    have hq : decide ((s.size : Int) < 7) = true := by simp; omega
    clear he
    go_enter Try.func54, Try.ntmps54
    go_wp2
    go_ret3
    exact ⟨Below.refl _ _, .inr ⟨by rw [HE.out]; decide, by rw [HE.out]; rfl⟩⟩
  have hq7 : decide ((s.size : Int) < 7) = false := by simp; omega
  have hbg := big_any (bstr ((s.data.toList.drop 1).take 2)) w (by rw [bstr_size]; simp; omega)
  rw [show (bstr ((s.data.toList.drop 1).take 2)).data.toList = (s.data.toList.drop 1).take 2 from rfl] at hbg
  have hlt := bigL_lt ((s.data.toList.drop 1).take 2)
  have hl2 : ((s.data.toList.drop 1).take 2).length = 2 := by simp; omega
  rw [hl2] at hlt
  have hx2 : s.extract 1 3 = bstr ((s.data.toList.drop 1).take 2) := ext_bstr s 1 3
  rw [← hx2] at hbg
  obtain ⟨t, ht⟩ := get_of_lt s.data.toList (i := 0) (by omega)
  have hot : openE s.data.toList = if s.size < bigL ((s.data.toList.drop 1).take 2) + 7 then 3 else if frameL t (bodyL s.data.toList) = s.data.toList then 0 else 2 := by
    by_cases h3 : s.size < bigL ((s.data.toList.drop 1).take 2) + 7
    · rw [if_pos h3, openE, if_neg (by omega), if_pos (by omega)]
    · rw [if_neg h3, openE_again ht (by omega) (by omega)]
  have hbd : bstr (bodyL s.data.toList) = s.extract 3 (3 + bigL ((s.data.toList.drop 1).take 2)) := by
    rw [ext_bstr, bodyL, Nat.add_sub_cancel_left]
  have hbz : (bodyL s.data.toList).length = min (bigL ((s.data.toList.drop 1).take 2)) (s.size - 3) := by
    rw [bodyL, List.length_take, List.length_drop]; omega
  generalize bigL ((s.data.toList.drop 1).take 2) = n at *
  have HB := hid hbg
  have HO := hid hot
  have HD := hid hbd
  have HZ := hid hbz
  have HT := hid ht
  have hnl : (n : Int) ≤ 65535 := by omega
  have h7' : (7 : Int) ≤ s.size := by omega
  have hs7 : 7 ≤ s.size := by omega
  clear hbg hot hbd hbz hx2 hl2 hlt ht h7
  by_cases h3 : s.size < n + 7
  · have hq : decide ((s.size : Int) < (n : Int) + 7) = true := by simp; omega
    go_enter Try.func54, Try.ntmps54
    go_wp2_with fail
    refine HB.out.mono ?_
    rintro e w1 ⟨rfl, rfl⟩
    go_wp2_with fail
    go_ret3
    have e3 : openE s.data.toList = 3 := by rw [HO.out, if_pos h3]
    exact ⟨Below.refl _ _, .inr ⟨by rw [e3]; decide, by rw [e3]; rfl⟩⟩
  · have hq : decide ((s.size : Int) < (n : Int) + 7) = false := by simp; omega
    have hn3 : (n : Int) + 7 ≤ s.size := by omega
    have hn4 : 3 + n ≤ s.size := by omega
    go_enter Try.func54, Try.ntmps54
    go_wp2_with fail
    refine HB.out.mono ?_
    rintro e w1 ⟨rfl, rfl⟩
    go_wp2_with fail
    have ht0 : t = s[0] := by
      have h := HT.out
      rw [Array.getElem?_toList, Array.getElem?_eq_getElem (by show 0 < s.size; omega)] at h
      exact (Option.some.inj h).symm
    have hfr := fun W => rframe_ok s[0] (s.extract 3 (3 + n)) W (by rw [← HD.out, bstr_size]; have := HZ.out; omega)
    rw [← HD.out, show (bstr (bodyL s.data.toList)).data.toList = bodyL s.data.toList from rfl, ← ht0] at hfr
    rw [HD.out] at hfr
    obtain ⟨AG, hag⟩ : ∃ S, bstr (frameL t (bodyL s.data.toList)) = S := ⟨_, rfl⟩
    rw [hag] at hfr
    have hcase : (AG = s ∧ openE s.data.toList = 0) ∨ (AG ≠ s ∧ openE s.data.toList = 2) := by
      by_cases hf : frameL t (bodyL s.data.toList) = s.data.toList
      · exact .inl ⟨by rw [← hag, hf], by rw [HO.out, if_neg h3, if_pos hf]⟩
      · exact .inr ⟨fun e => hf (congrArg (fun s : ByteArray => s.data.toList) (hag.trans e)), by rw [HO.out, if_neg h3, if_neg hf]⟩
    have HF := hid hfr
    have HT0 := hid ht0
    clear hfr ht0 hag HO
    have hw3 : IntKind.i64.wrap (3 + (n : Int)) = 3 + n := by rw [IntKind.wrap_i64]; omega
    have hi0 : (3 : Int) ≤ 3 + n := by omega
    have hi1 : (3 : Int) + n ≤ s.size := by omega
    have hi2 : 0 < s.size := by omega
    rcases hcase with ⟨rfl, he⟩ | ⟨hne, he⟩
    · have HE := hid he
      clear he
      go_region_with (first | (go_at_call 52; rw [← HT0.out]; refine (HF.out _).mono ?_; rintro e w4 ⟨rfl, hb4⟩))
      all_goals
        have hk : Below w1.heap.size w1 w4 := by
          first
            | exact hb4
            | exact (bl2 w1).trans (hb4.mono (bl2 w1).size)
        go_wp2
        go_quiet (fail)
        go_wp2
        go_ret3
        refine ⟨below_drewN hk _, .inl ⟨HE.out, t, HT.out, ?_⟩⟩
        rw [HD.out, HT0.out]
        rfl
    · have HE := hid he
      have hq2 : (AG.toList == s.toList) = false := by
        rw [beq_eq_false_iff_ne, ByteArray.toList_eq, ByteArray.toList_eq]
        exact fun e => hne (Go.WideShapes.bytes_inj e)
      clear he hne
      go_region_with (first | (go_at_call 52; rw [← HT0.out]; refine (HF.out _).mono ?_; rintro e w4 ⟨rfl, hb4⟩))
      all_goals
        have hk : Below w1.heap.size w1 w4 := by
          first
            | exact hb4
            | exact (bl2 w1).trans (hb4.mono (bl2 w1).size)
        go_wp2
        go_ret3
        exact ⟨hk, .inr ⟨by rw [HE.out]; decide, by rw [HE.out]; rfl⟩⟩
end Go.Proofs.Ytppbcdcmpcagdaa
