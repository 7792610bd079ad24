/- Contracts of field.Open and of the reference's Open; the plain law that both open alike. -/
import Derived.Test.YtppbcdcmpcagdaaField4
import Derived.Deep.QuietTactic
import Derived.BigQuiet
import Derived.Deep.RegionHeld3
namespace Go.Proofs.Ytppbcdcmpcagdaa
open Go.RowKit Go.CP

/-- What Open comes to: the code. -/
def openE (b : List UInt8) : Nat :=
  if b.length < 7 then 3
  else if b.length < bigL ((b.drop 1).take 2) + 7 then 3
  else if b.length = bigL ((b.drop 1).take 2) + 7 ∧ (sumL (b.take (3 + bigL ((b.drop 1).take 2)))).toNat = bigL (b.drop (3 + bigL ((b.drop 1).take 2))) then 0 else 2
def bodyL (b : List UInt8) : List UInt8 := (b.drop 3).take (bigL ((b.drop 1).take 2))

theorem getL_big : ∀ (l : List UInt8), l.length ≤ 4 → (getL l).toNat = bigL l
  | [], _ => rfl
  | x :: l, h => by
    have ih := getL_big l (by simp at h; omega)
    have hlt := bigL_lt l
    have hx := x.toNat_lt
    have h3 : 256 ^ l.length ≤ 256 ^ 3 := Nat.pow_le_pow_right (by omega) (by simp at h; omega)
    show (((getL l) <<< 8) ||| x.toUInt32).toNat = bigL l * 256 + x.toNat
    rw [UInt32.toNat_or, UInt32.toNat_shiftLeft, ih, UInt8.toNat_toUInt32, show (8 : UInt32).toNat % 32 = 8 from rfl, Nat.shiftLeft_eq, Nat.mod_eq_of_lt (by omega)]
    have := Nat.two_pow_add_eq_or_of_lt (i := 8) hx (bigL l)
    rw [Nat.mul_comm (bigL l) (2 ^ 8), ← this]
theorem little_big : ∀ (l : List UInt8), little (bigL l) l.length = l
  | [] => rfl
  | x :: l => by
    have ih := little_big l
    have hx := x.toNat_lt
    show little (bigL l * 256 + x.toNat) (l.length + 1) = x :: l
    rw [little, show (bigL l * 256 + x.toNat) % 256 = x.toNat from by omega, show (bigL l * 256 + x.toNat) / 256 = bigL l from by omega, ih]
    simp
theorem big_little : ∀ (k n : Nat), n < 256 ^ k → bigL (little n k) = n
  | 0, n, h => by simp at h; subst h; rfl
  | k + 1, n, h => by
    have ih := big_little k (n / 256) (by rw [Nat.pow_succ] at h; omega)
    show bigL (little (n / 256) k) * 256 + (UInt8.ofNat (n % 256)).toNat = n
    rw [ih, UInt8.toNat_ofNat']
    omega

theorem slice_bytes {w : World} {g off : Nat} {l : List UInt8} (h : Bytes w (some ⟨g, off, none⟩) l) (i n : Nat) : Bytes w (some ⟨g, off + i, none⟩) ((l.drop i).take n) := by
  have := (Cells.drop h i).take n
  rwa [← List.map_drop, ← List.map_take] at this

def RetOpen (b : List UInt8) (w : World) (e : Ending) (w' : World) : Prop :=
  (openE b = 0 ∧ ∃ A c t, e = .returned (.tuple #[bv t, .slice A (bodyL b).length c, .int .i64 0]) ∧ b[0]? = some t ∧ Go.CP.Own w' w.heap.size 5 1 A (bodyL b).length c ((bodyL b).map bv) ∧ Below w.heap.size w w') ∨
  (openE b ≠ 0 ∧ e = .returned (.tuple #[.int .u8 0, .slice none 0 0, .int .i64 (openE b : Nat)]) ∧ Below w.heap.size w w')

theorem open_short (B : Option Addr) (b : List UInt8) (c : Nat) (w : World) (h : b.length < 7) :
    Calls Try.prog 53 #[.slice B b.length c] w fun e w' => e = .returned (.tuple #[.int .u8 0, .slice none 0 0, .int .i64 3]) ∧ Below w.heap.size w w' := by
  have hq : decide ((b.length : Int) < 7) = true := by simp; omega
  go_enter Try.func53, Try.ntmps53
  go_wp2
  go_ret3
  exact ⟨rfl, Below.refl _ _⟩

set_option maxHeartbeats 4000000 in
set_option maxRecDepth 100000 in
theorem open_full (g off : Nat) (b : List UInt8) (c : Nat) (w : World) (n e : Nat) (hb : Bytes w (some ⟨g, off, none⟩) b) (hc : b.length ≤ c) (hl : b.length ≤ 150000000000000)
    (hcx : ∀ j x, b[j]? = some x → w.cell? ⟨g, off + j, none⟩ = some (.int .u8 (x.toNat : Int)))
    (HE : Hid (openE b = if b.length < n + 7 then 3 else if b.length = n + 7 ∧ (sumL (b.take (3 + n))).toNat = bigL (b.drop (3 + n)) then 0 else 2))
    (HBD : Hid (bodyL b = (b.drop 3).take n))
    (HG : Hid (Calls Try.prog 130 #[.slice (some ⟨g, off + 1, none⟩) 2 (c - 1)] w fun e W' => e = .returned (.int .u32 ((n : Nat) : Int)) ∧ Below w.heap.size w W'))
    (c1 : (2 : Int) ≤ c - 1) (c7 : (7 : Int) ≤ b.length) (_cc : (b.length : Int) ≤ c) (cn : (n : Int) ≤ 65535) (he : 3 + (n : Int) = e) (hlen : b.length = n + 7)
    (hq7 : decide ((b.length : Int) < 7) = false) (hq3 : decide ((b.length : Int) < (e : Int) + 4) = false) (hq4 : decide ((e : Int) + 4 < (b.length : Int)) = false) :
    Calls Try.prog 53 #[.slice (some ⟨g, off, none⟩) b.length c] w (RetOpen b w) := by
  have HLEN := hid hlen
  have c8 : (e : Int) ≤ b.length := by omega
  have c9 : (0 : Int) ≤ e := by omega
  have c10 : (3 : Int) ≤ e := by omega
  have hw : IntKind.i64.wrap ((e : Int) + 4) = e + 4 := by rw [IntKind.wrap_i64]; omega
  have c11 : (e : Int) ≤ c := by omega
  have hne : ¬ c = e := by omega
  have hne3 : ¬ c = 3 := by omega
  have hg2 : ∀ W, Below w.heap.size w W → Calls Try.prog 130 #[.slice (some ⟨g, off + e, none⟩) (b.length - e) (c - e)] W fun en W' => en = .returned (.int .u32 ((bigL (b.drop e) : Nat) : Int)) ∧ Below W.heap.size W W' := fun W hW => by
    have h1 := get_any (some ⟨g, off + e, none⟩) (b.drop e) (c - e) (by simp; omega) W (by have := Cells.drop (hb.below hW (Nat.le_refl _)) e; rwa [← List.map_drop] at this)
    rwa [getL_big _ (by simp; omega), List.length_drop] at h1
  have hs2 : ∀ W, Below w.heap.size w W → Calls Try.prog 55 #[.slice (some ⟨g, off, none⟩) e c] W fun en W' => en = .returned (.int .u32 ((sumL (b.take e)).toNat : Int)) ∧ W' = W := fun W hW => by
    have h1 := sum_any (some ⟨g, off, none⟩) (b.take e) c W (by have := Cells.take (hb.below hW (Nat.le_refl _)) e; rwa [← List.map_take] at this) (by simp; omega)
    rwa [List.length_take, Nat.min_eq_left (by omega)] at h1
  have HG2 := hid hg2
  have HS2 := hid hs2
  have hE2 : openE b = if (sumL (b.take e)).toNat = bigL (b.drop e) then 0 else 2 := by
    rw [HE.out, if_neg (by omega), show 3 + n = e from by omega]
    simp [hlen]
  have HBL : Hid ((bodyL b).length = n ∧ bodyL b = (b.drop 3).take n ∧ e = n + 3) := hid ⟨by rw [HBD.out]; simp; omega, HBD.out, by omega⟩
  generalize bigL (b.drop e) = X at HG2 hE2
  generalize (sumL (b.take e)).toNat = Y at HS2 hE2
  have hE3 : openE b = if ((X : Int) != (Y : Int)) = true then 2 else 0 := by
    rw [hE2]
    by_cases h : Y = X
    · subst h; simp
    · rw [if_neg h, if_pos (by rw [bne_iff_ne]; omega)]
  obtain ⟨q, hq⟩ : ∃ q, ((X : Int) != (Y : Int)) = q := ⟨_, rfl⟩
  rw [hq] at hE3
  have HE3 := hid hE3
  clear hlen hg2 hs2 hE2 hE3 HE HBD
  go_enter Try.func53, Try.ntmps53
  go_wp2_with fail
  refine HG.out.mono ?_
  rintro e w1 ⟨rfl, hb1⟩
  go_wp2_with fail
  go_region_held3 (fun W => Below w.heap.size w W) (first | exact Below.refl _ _ | exact Below.drew (Below.refl _ _) | assumption | (refine Below.drew ?_; assumption))
    (first
      | (go_at_call 130; refine (HG2.out _ (by assumption)).mono ?_; rintro e w4 ⟨rfl, hb4⟩; have hk := Below.trans (by assumption : Below w.heap.size w _) (hb4.mono (Below.size (by assumption : Below w.heap.size w _))))
      | (go_at_call 55; refine (HS2.out _ (by assumption)).mono ?_; rintro e w5 ⟨rfl, rfl⟩))
  have HK := hid hk
  cases q with
  | true =>
    have hoe : openE b = 2 := by rw [HE3.out]; rfl
    go_wp2_with fail
    go_ret3
    exact .inr ⟨by omega, by rw [hoe]; rfl, HK.out⟩
  | false =>
    have hoe : openE b = 0 := by rw [HE3.out]; rfl
    obtain ⟨t, ht⟩ := get_of_lt b (i := 0) (by omega)
    have hd := hcx 0 t ht
    have HT := hid ht
    rw [Nat.add_zero] at hd
    have hgl := World.block_lt_of_cell? w _ hd
    have hbw : ∀ W, Below w.heap.size w W → W.cell? ⟨g, off, none⟩ = some (.int .u8 (t.toNat : Int)) := fun W h => (h.cell (p := ⟨g, off, none⟩) hgl).trans hd
    have hcl : ∀ W, Below w.heap.size w W → Calls Try.prog 129 #[.slice (some ⟨g, off + 3, none⟩) (e - 3) (c - 3)] W (RetOwn W 5 1 (e - 3) ((bodyL b).map bv)) := fun W hW => by
      have hbb := slice_bytes (hb.below hW (Nat.le_refl _)) 3 n
      rw [← HBL.out.2.1] at hbb
      have h1 := clone_any (some ⟨g, off + 3, none⟩) (bodyL b) (c - 3) W hbb (by have := HBL.out.1; omega)
      rwa [HBL.out.1, show n = e - 3 from by have := HBL.out.2.2; omega] at h1
    have HCL := hid hcl
    have HBW := hid hbw
    clear hcl hbw hd ht
    have c12 : (0 : Int) < b.length := by omega
    have c13 : 0 < b.length := by omega
    go_wp2_with fail
    go_region_held3 (fun W => Below w.heap.size w W ∧ W.cell? ⟨g, off, none⟩ = some (.int .u8 (t.toNat : Int))) (first | exact ⟨HK.out.drew, HBW.out _ HK.out.drew⟩ | assumption | exact ⟨by assumption, by assumption⟩)
      (first
        | (go_at_call 129; refine (HCL.out _ (And.left (by assumption))).mono ?_; rintro e w6 ⟨A6, c6, rfl, ho6, hb6⟩; have hk6 := Below.trans (And.left (by assumption : Below w.heap.size w _ ∧ World.cell? _ ⟨g, off, none⟩ = some (.int .u8 (t.toNat : Int)))) (hb6.mono (Below.size (And.left (by assumption : Below w.heap.size w _ ∧ World.cell? _ ⟨g, off, none⟩ = some (.int .u8 (t.toNat : Int)))))); have hc6 := HBW.out _ hk6)
        | (go_at_call 128; refine (clip_any _ _ _ _ ho6.le.1).mono ?_; rintro e w7 ⟨rfl, rfl⟩))
    all_goals
      go_wp2
      go_ret3
      have hbl : (bodyL b).length = e - 3 := by have h1 := HBL.out.1; have h2 := HBL.out.2.2; omega
      refine .inl ⟨hoe, A6, e - 3, t, by rw [hbl]; rfl, HT.out, ?_, by assumption⟩
      rw [hbl]
      exact (ho6.mono HK.out.drew.size).clip

set_option maxRecDepth 100000 in
theorem open_any2 (B : Option Addr) (b : List UInt8) (c : Nat) (w : World) (hb : Bytes w B b) (hc : b.length ≤ c) (hl : b.length ≤ 150000000000000) :
    Calls Try.prog 53 #[.slice B b.length c] w (RetOpen b w) := by
  by_cases h7 : b.length < 7
  · have he : openE b = 3 := if_pos h7
    exact (open_short B b c w h7).mono fun e w' ⟨h1, h2⟩ => .inr ⟨by omega, by rw [he]; exact h1, h2⟩
  have H7 := hid h7
  have hq7 : decide ((b.length : Int) < 7) = false := by simp; omega
  obtain ⟨g, off, rfl, hcx⟩ := Bytes.openq hb (by omega)
  have hb2 := slice_bytes hb 1 2
  have hl2 : ((b.drop 1).take 2).length = 2 := by simp; omega
  have hg := get_any (some ⟨g, off + 1, none⟩) ((b.drop 1).take 2) (c - 1) (by omega) w hb2
  rw [getL_big _ (by omega), hl2] at hg
  have hlt := bigL_lt ((b.drop 1).take 2)
  rw [hl2] at hlt
  have hE : openE b = if b.length < bigL ((b.drop 1).take 2) + 7 then 3
      else if b.length = bigL ((b.drop 1).take 2) + 7 ∧ (sumL (b.take (3 + bigL ((b.drop 1).take 2)))).toNat = bigL (b.drop (3 + bigL ((b.drop 1).take 2))) then 0 else 2 := if_neg h7
  have hBd : bodyL b = (b.drop 3).take (bigL ((b.drop 1).take 2)) := rfl
  generalize bigL ((b.drop 1).take 2) = n at hg hlt hE hBd
  have HE := hid hE
  have HBD := hid hBd
  have HG := hid hg
  have c1 : (2 : Int) ≤ c - 1 := by omega
  have c7 : (7 : Int) ≤ b.length := by omega
  have cc : (b.length : Int) ≤ c := by omega
  have cn : (n : Int) ≤ 65535 := by omega
  clear hE hBd hg h7 hb2 hl2 hlt
  obtain ⟨e, he⟩ : ∃ e : Nat, 3 + (n : Int) = e := ⟨3 + n, by omega⟩
  by_cases h3 : b.length < n + 7
  · have hq3 : decide ((b.length : Int) < (e : Int) + 4) = true := by simp; omega
    have hoe : openE b = 3 := by rw [HE.out, if_pos h3]
    clear HE h3
    go_enter Try.func53, Try.ntmps53
    go_wp2_with fail
    refine HG.out.mono ?_
    rintro e w1 ⟨rfl, hb1⟩
    go_wp2_with fail
    go_ret3
    exact .inr ⟨by omega, by rw [hoe]; rfl, hb1⟩
  have hq3 : decide ((b.length : Int) < (e : Int) + 4) = false := by simp; omega
  by_cases h4 : n + 7 < b.length
  · have hq4 : decide ((e : Int) + 4 < (b.length : Int)) = true := by simp; omega
    have hoe : openE b = 2 := by rw [HE.out, if_neg h3, if_neg (by omega)]
    clear HE h3 h4
    go_enter Try.func53, Try.ntmps53
    go_wp2_with fail
    refine HG.out.mono ?_
    rintro e w1 ⟨rfl, hb1⟩
    go_wp2_with fail
    go_quiet (fail)
    go_wp2_with fail
    go_ret3
    exact .inr ⟨by omega, by rw [hoe]; rfl, below_drewN hb1 _⟩
  · have hlen : b.length = n + 7 := by omega
    have hq4 : decide ((e : Int) + 4 < (b.length : Int)) = false := by simp; omega
    exact open_full g off b c w n e hb hc hl hcx HE HBD HG c1 c7 cc cn he hlen hq7 hq3 hq4
theorem open_any (B : Option Addr) (b : List UInt8) (c : Nat) (w : World) (hb : Bytes w B b) (hc : b.length ≤ c) (hl : b.length ≤ 140737488351232) :
    Calls Try.prog 53 #[.slice B b.length c] w (RetOpen b w) := open_any2 B b c w hb hc (by omega)
end Go.Proofs.Ytppbcdcmpcagdaa
