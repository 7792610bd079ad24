/- Contracts of package verb: Good, Changes. -/
import Derived.Test.YtppbcdcmpcagdaaVerb3
namespace Go.Proofs.Ytppbcdcmpcagdaa
open Go.RowKit Go.CP

def sevenL (v : Vb) : List Int := [v.life, v.seq, v.epoch, v.node, v.gen, v.pos, v.size]
theorem numsB_eq (v : Vb) : numsB v = (sevenL v).all numB := by
  simp [numsB, sevenL, Bool.and_assoc]
/-- The tests of Good between its numbers and its kind. -/
def midB (v : Vb) : Bool := decide (0 ≤ v.seat) && decide (v.seat < 8) && v.life != 0 && decide (v.path.length ≤ 255) && decide (v.other.length ≤ 255)
theorem goodV_eq (v : Vb) : goodV v = ((sevenL v).all numB && midB v && ((ownV v).2 && bareA (ownV v).1)) := by
  rw [← own_good, ← numsB_eq, goodV, midB]
  generalize numsB v = a
  generalize ownB v = b
  generalize bareB v = c
  rw [Bool.eq_iff_iff]
  simp only [Bool.and_eq_true]
  constructor <;> (intro h; obtain ⟨⟨⟨⟨⟨⟨⟨⟨h1, h2⟩, h3⟩, h4⟩, h5⟩, h6⟩, h7⟩, h8⟩, h9⟩ := id h; simp_all) <;> skip
theorem ints_lit (w : World) (l : List Int) (fr : TypeId) : Ints (w.alloc (.cells (l.map iv).toArray fr)) (some ⟨w.heap.size, 0, none⟩) l := by
  intro j u hu
  exact ⟨_, _, rfl, by rw [cell_of_row _ _ _ _ _ (0, 0) (heap_alloc_new w _), Nat.zero_add]; simpa using hu⟩
set_option maxHeartbeats 2000000 in
set_option maxRecDepth 100000 in
theorem vgood_any (v : Vb) (A : Option Addr) (c : Nat) (w : World) : Calls Try.prog 82 #[vval v A c] w fun e w' => e = .returned (.bool (goodV v)) ∧ Below w.heap.size w w' := by
  have HG := hid (goodV_eq v)
  have HOW := hid (fun W => own_any v A c W)
  have HBA := hid (fun A' c' W => bare_any (ownV v).1 A' c' W)
  obtain ⟨ok, hok⟩ : ∃ ok, (ownV v).2 = ok := ⟨_, rfl⟩
  have hb0 : Below w.heap.size w (w.alloc (.cells (vcells v A c).toArray 100)) := (Below.refl _ _).alloc (Nat.le_refl _) _
  have HB := hid (hb0.alloc hb0.size (.cells ((sevenL v).map iv).toArray 3))
  have hint := ints_lit (w.alloc (.cells (vcells v A c).toArray 100)) (sevenL v) 3
  rw [World.size_alloc] at hint
  obtain ⟨l, hl⟩ : ∃ l, sevenL v = l := ⟨_, rfl⟩
  have HLL : Hid (l.length = 7) := hid (by rw [← hl]; rfl)
  have HI : Hid (∀ i n, l[i]? = some n → ((w.alloc (.cells (vcells v A c).toArray 100)).alloc (.cells ((sevenL v).map iv).toArray 3)).cell? ⟨w.heap.size + 1, i, none⟩ = some (.int .i64 n)) := hid (fun i n h => by
    rw [← hl] at h
    obtain ⟨b, off, e, k⟩ := Ints.atq hint h
    cases e
    rw [Nat.zero_add] at k
    exact k)
  rw [hl] at HG
  have HOK := hid hok
  rw [hok] at HG HOW
  clear hb0 hint hl hok
  obtain ⟨vv, hvv⟩ : ∃ vv, v = vv := ⟨_, rfl⟩
  have HMID : Hid (midB v = midB vv) := hid (by rw [hvv])
  rw [hvv] at HG HOW HBA HOK
  obtain ⟨kind, seat, life, seq, epoch, path, other, node, gen, pos, size, mode, data⟩ := v
  unfold vval
  simp only [vcells, sevenL, List.map_cons, List.map_nil, iv] at HI HB ⊢
  rw [hvv]
  have HVV := hid hvv
  clear hvv
  go_enter Try.func82, Try.ntmps82
  go_wp2_with fail
  go_loop [25] (fun jv => ∃ i : Nat, i ≤ 7 ∧ jv = .int .i64 i ∧ Hid ((l.take i).all numB = true)) (fun jv => 7 - (intOf jv).toNat)
  case atStart => exact ⟨0, by omega, rfl, hid rfl⟩
  case round =>
    obtain ⟨i, hi, rfl, HA⟩ := hrel
    by_cases hlt : i < 7
    · obtain ⟨n, hn⟩ := get_of_lt l (i := i) (by rw [HLL.out]; exact hlt)
      have hc := HI.out i n hn
      have HN := hid hn
      have hii : (i : Int) < 7 := by omega
      clear hn
      cases hnb : numB n with
      | false =>
        have HNB := hid hnb
        have hcall := vnumber_any n
        rw [hnb] at hcall
        have HC := hid hcall
        clear hnb hcall
        go_wp2_with fail
        refine (HC.out _).mono ?_
        rintro e w2 ⟨rfl, rfl⟩
        go_wp2_with fail
        go_ret
        refine ⟨ret_bool ?_, HB.out⟩
        rw [HG.out, List.all_eq_false.2 ⟨n, List.mem_of_getElem? HN.out, by rw [HNB.out]; decide⟩]
        rfl
      | true =>
        have HNB := hid hnb
        have hcall := vnumber_any n
        rw [hnb] at hcall
        have HC := hid hcall
        clear hnb hcall
        go_wp2_with fail
        refine (HC.out _).mono ?_
        rintro e w2 ⟨rfl, rfl⟩
        go_wp2_with fail
        go_round
        case rel => exact ⟨i + 1, by omega, by go_num, hid (by rw [take_snoc HN.out, List.all_append, HA.out]; simp [HNB.out])⟩
        case measure => simp [intOf]; omega
    · have hk : i = 7 := by omega
      have hik : ¬ (i : Int) < 7 := by omega
      have HALL : Hid (l.all numB = true) := hid (by have h := HA.out; rw [hk, List.take_of_length_le (by rw [HLL.out]; exact Nat.le_refl _)] at h; exact h)
      clear hk
      clear HI HA
      obtain ⟨md, hmd⟩ : ∃ md, midB vv = md := ⟨_, rfl⟩
      have HMD := hid hmd
      rw [hmd] at HMID HG
      clear hmd
      cases md with
      | false =>
        have HGF : Hid (goodV vv = false) := hid (by rw [HG.out]; simp)
        have hnm : ¬ (0 ≤ seat ∧ seat < 8 ∧ life ≠ 0 ∧ (path.length : Int) ≤ 255 ∧ (other.length : Int) ≤ 255) := fun h => by
          have := HMID.out
          simp [midB] at this
          omega
        have HNM := hid hnm
        clear hnm
        by_cases hz : life = 0
        · subst hz
          go_wp2_with fail
          all_goals
            go_ret
            exact ⟨ret_bool (by rw [HGF.out]), HB.out⟩
        · have hzq : (life == 0) = false := by simpa using hz
          go_wp2_with fail
          all_goals first
            | (exact absurd (by omega) HNM.out; done)
            | (go_ret; exact ⟨ret_bool (by rw [HGF.out]), HB.out⟩)
      | true =>
        have hm : 0 ≤ seat ∧ seat < 8 ∧ life ≠ 0 ∧ (path.length : Int) ≤ 255 ∧ (other.length : Int) ≤ 255 := by
          have := HMID.out
          simp [midB] at this
          omega
        have q1 : decide (seat < 0) = false := by simp; omega
        have q2 : decide (8 ≤ seat) = false := by simp; omega
        have q3 : (life == 0) = false := by simp; omega
        have q4 : decide (255 < (path.length : Int)) = false := by simp; omega
        have q5 : decide (255 < (other.length : Int)) = false := by simp; omega
        clear hm
        have HOW2 : Hid (∀ W, Calls Try.prog 150 #[vval ⟨kind, seat, life, seq, epoch, path, other, node, gen, pos, size, mode, data⟩ A c] W (RetOwnP (ownV vv).1 ok W)) := hid (by rw [HVV.out]; exact HOW.out)
        clear HOW
        obtain ⟨V, hV⟩ : ∃ V, (ownV vv).1 = V := ⟨_, rfl⟩
        rw [hV] at HOW2 HBA HG
        clear hV HOK HVV HMID
        obtain ⟨kind', seat', life', seq', epoch', path', other', node', gen', pos', size', mode', data'⟩ := V
        cases ok with
        | false =>
          have HGF : Hid (goodV vv = false) := hid (by rw [HG.out]; simp)
          go_wp2_with fail
          refine (HOW2.out _).mono ?_
          rintro e w5 ⟨A', c', rfl, hb5⟩
          have HB5 := hid (below_t HB.out hb5 HB.out.size)
          clear hb5 HB HOW2
          simp only [vval, vcells]
          go_wp2_with fail
          go_ret
          exact ⟨ret_bool (by rw [HGF.out]), HB5.out.alloc HB5.out.size _⟩
        | true =>
          have HGT : Hid (goodV vv = bareA ⟨kind', seat', life', seq', epoch', path', other', node', gen', pos', size', mode', data'⟩) := hid (by rw [HG.out, HALL.out]; simp)
          go_wp2_with fail
          refine (HOW2.out _).mono ?_
          rintro e w5 ⟨A', c', rfl, hb5⟩
          have HB5 := hid (below_t HB.out hb5 HB.out.size)
          clear hb5 HB HOW2
          simp only [vval, vcells]
          go_wp2_with fail
          refine (HBA.out A' c' _).mono ?_
          rintro e w6 ⟨rfl, hb6⟩
          have HB6 := hid hb6
          clear hb6
          go_wp2_with fail
          go_ret
          have hb7 := HB5.out.alloc HB5.out.size (.cells (vcells ⟨kind', seat', life', seq', epoch', path', other', node', gen', pos', size', mode', data'⟩ A' c').toArray 100)
          exact ⟨ret_bool (by rw [HGT.out]), below_t hb7 HB6.out hb7.size⟩
end Go.Proofs.Ytppbcdcmpcagdaa
