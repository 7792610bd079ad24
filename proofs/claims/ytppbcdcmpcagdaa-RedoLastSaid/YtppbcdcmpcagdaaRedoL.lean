/- Contract of the law's list: writes of rows at numbers of the log's home, each number once. -/
import Derived.Test.YtppbcdcmpcagdaaWalkRedoTwice
namespace Go.Proofs.Ytppbcdcmpcagdaa
open Go.RowKit Go.CP

structure Listed (w : World) (base : Nat) (x : UInt8) (ws : List Wri) : Prop where
  le : ws.length ≤ 24
  num : ∀ r ∈ ws, 26 ≤ r.n ∧ r.n < 90
  dat : ∀ r ∈ ws, r.d = zA.set 3 x ∧ r.c = 128
  nod : (ws.map (·.n)).Nodup
  own : ∀ r ∈ ws, Go.CP.Own w base 5 1 r.a 128 128 ((zA.set 3 x).map bv)
def RetList (W : World) (x : UInt8) (e : Ending) (W' : World) : Prop :=
  ∃ A c ws, e = .returned (.slice A ws.length c) ∧ Go.CP.Own W' W.heap.size 136 2 A ws.length c (ws.flatMap wcells) ∧ Listed W' W.heap.size x ws ∧ Below W.heap.size W W'
theorem Listed.nil (w : World) (base : Nat) (x : UInt8) : Listed w base x [] := ⟨by simp, fun _ h => by simp at h, fun _ h => by simp at h, List.nodup_nil, fun _ h => by simp at h⟩
theorem Listed.of {w w' : World} {base : Nat} {x : UInt8} {ws : List Wri} (h : Listed w base x ws) (hk : ∀ A : Option Addr, Go.CP.Own w base 5 1 A 128 128 ((zA.set 3 x).map bv) → Go.CP.Own w' base 5 1 A 128 128 ((zA.set 3 x).map bv)) : Listed w' base x ws :=
  ⟨h.le, h.num, h.dat, h.nod, fun r hr => hk _ (h.own r hr)⟩
theorem Listed.snoc {w : World} {base : Nat} {x : UInt8} {ws : List Wri} (h : Listed w base x ws) (hl : ws.length < 24) (n : Nat) (hn : 26 ≤ n ∧ n < 90) (hc : (ws.map (·.n)).contains (n : Int) = false) (P : Option Addr) (ho : Go.CP.Own w base 5 1 P 128 128 ((zA.set 3 x).map bv)) :
    Listed w base x (ws ++ [⟨(n : Int), P, zA.set 3 x, 128⟩]) := by
  refine ⟨by simp; omega, fun r hr => ?_, fun r hr => ?_, ?_, fun r hr => ?_⟩
  · rcases List.mem_append.1 hr with hr | hr
    · exact h.num r hr
    · rw [List.mem_singleton.1 hr]; dsimp only; omega
  · rcases List.mem_append.1 hr with hr | hr
    · exact h.dat r hr
    · rw [List.mem_singleton.1 hr]; exact ⟨rfl, rfl⟩
  · rw [List.map_append, List.nodup_append]
    refine ⟨h.nod, by simp, ?_⟩
    intro a ha b hb e
    simp only [List.map_cons, List.map_nil, List.mem_singleton] at hb
    subst hb
    subst e
    have := List.contains_iff_mem.2 ha
    rw [hc] at this
    cases this
  · rcases List.mem_append.1 hr with hr | hr
    · exact h.own r hr
    · rw [List.mem_singleton.1 hr]; exact ho
theorem has_succ {ws : List Wri} {k : Nat} {r : Wri} (h : ws[k]? = some r) (n : Int) : ((ws.take (k + 1)).map (·.n)).contains n = (((ws.take k).map (·.n)).contains n || (r.n == n)) := by
  rw [take_snoc h, List.map_append, Bool.eq_iff_iff, Bool.or_eq_true, List.contains_iff_mem, List.contains_iff_mem, List.mem_append, List.map_cons, List.map_nil, List.mem_singleton, beq_iff_eq]
  exact or_congr Iff.rfl eq_comm
set_option maxHeartbeats 2000000 in
set_option maxRecDepth 100000 in
theorem list_any (A : Option Addr) (l : List UInt8) (cl : Nat) (x : UInt8) (W : World) (ha : Bytes W A l) (hl : l.length ≤ 140737488351232) :
    Calls Try.prog 121 #[.slice A l.length cl, .int .u8 (x.toNat : Int)] W (RetList W x) := by
  have HA := hid ha
  clear ha
  go_enter Try.func121, Try.ntmps121
  go_wp2_with fail
  go_loopw [5, 6] (fun ov iv' wr => ∃ (i : Nat) (B : Option Addr) (cb : Nat) (ws : List Wri), i ≤ l.length ∧ iv' = .int .i64 i ∧ ov = .slice B ws.length cb ∧ Hid (Go.CP.Own wr W.heap.size 136 2 B ws.length cb (ws.flatMap wcells) ∧ Listed wr W.heap.size x ws ∧ Below W.heap.size W wr)) (fun _ iv' _ => l.length - (intOf iv').toNat)
  case atStart => exact ⟨0, some ⟨W.heap.size, 0, none⟩, 0, [], by omega, rfl, rfl, hid ⟨Go.CP.Own.empty W 136 2, Listed.nil _ _ _, (Below.refl _ _).alloc (Nat.le_refl _) _⟩⟩
  case round =>
    obtain ⟨i, B, cb, ws, hi, rfl, rfl, HI⟩ := hrel
    have h24 : (ws.length : Int) ≤ 24 := by have := HI.out.2.1.le; omega
    by_cases hlt : i < l.length
    · by_cases hw24 : ws.length < 24
      · obtain ⟨v, hv⟩ := get_of_lt l hlt
        obtain ⟨lb, lo, rfl, hcl⟩ := Bytes.openq (Cells.below HA.out HI.out.2.2 (Nat.le_refl _)) (by omega)
        have hci := hcl i v hv
        have hvb : (v.toNat : Int) < 256 := by have := v.toNat_lt; omega
        obtain ⟨m, hm⟩ : ∃ m : Nat, m = v.toNat % 64 := ⟨_, rfl⟩
        have hmm : ((v.toNat : Int) % 64) = (m : Int) := by omega
        have hm64 : (m : Int) < 64 := by omega
        obtain ⟨n, hn⟩ : ∃ n : Nat, n = 26 + m := ⟨_, rfl⟩
        have hn1 : 26 + (m : Int) = (n : Int) := by omega
        have HN : Hid (26 ≤ n ∧ n < 90) := hid (by omega)
        have hii : (i : Int) < (l.length : Int) := by omega
        have hw24i : (ws.length : Int) < 24 := by omega
        clear hcl hv hm hn
        go_wp2_with fail
        go_loopw [8, 9] (fun tv kv wq => ∃ k : Nat, k ≤ ws.length ∧ kv = .int .i64 k ∧ tv = .bool (((ws.take k).map (·.n)).contains (n : Int)) ∧ Hid (Go.CP.Own wq W.heap.size 136 2 B ws.length cb (ws.flatMap wcells) ∧ Listed wq W.heap.size x ws ∧ Below W.heap.size W wq)) (fun _ kv _ => ws.length - (intOf kv).toNat)
        case atStart => exact ⟨0, by omega, rfl, rfl, HI⟩
        case round =>
          clear HI hci
          obtain ⟨k, hk, rfl, rfl, HI⟩ := hrel
          by_cases hkl : k < ws.length
          · obtain ⟨r, hr⟩ := get_of_lt ws hkl
            obtain ⟨qb, qo, rfl, c0, -⟩ := Wrs.at (HI.out.1.cells) hr
            have HS := hid (has_succ hr (n : Int))
            obtain ⟨q, hq⟩ : ∃ q, ((ws.take k).map (·.n)).contains (n : Int) = q := ⟨_, rfl⟩
            rw [hq]
            rw [hq] at HS
            have hkli : (k : Int) < (ws.length : Int) := by omega
            clear hr hq
            cases q with
            | true =>
              go_wp2_with fail
              go_roundw
              case rel => exact ⟨k + 1, by omega, by go_num, by rw [HS.out]; rfl, HI⟩
              case measure => simp [intOf]; omega
            | false =>
              obtain ⟨z, hz⟩ : ∃ z, r.n = z := ⟨_, rfl⟩
              rw [hz] at c0 HS
              by_cases hzn : z = (n : Int)
              · have hzq : (z == (n : Int)) = true := by simpa using hzn
                rw [hzq] at HS
                clear hzn hz
                go_wp2_with fail
                go_roundw
                case rel => exact ⟨k + 1, by omega, by go_num, by rw [HS.out]; rfl, HI⟩
                case measure => simp [intOf]; omega
              · have hzq : (z == (n : Int)) = false := by simpa using hzn
                rw [hzq] at HS
                clear hz
                go_wp2_with fail
                go_roundw
                case rel => exact ⟨k + 1, by omega, by go_num, by rw [HS.out]; rfl, HI⟩
                case measure => simp [intOf]; omega
          · have hkk : k = ws.length := by omega
            subst hkk
            rw [List.take_length]
            obtain ⟨q, hq⟩ : ∃ q, (ws.map (·.n)).contains (n : Int) = q := ⟨_, rfl⟩
            rw [hq]
            have HQ := hid hq
            clear hq hkl hk
            cases q with
            | true =>
              go_wp2_with fail
              go_roundw
              case rel => exact ⟨i + 1, B, cb, ws, by omega, by go_num, rfl, HI⟩
              case measure => simp [intOf]; omega
            | false =>
              obtain ⟨ho, hL, hb⟩ := HI.out
              have hzz := hb.size
              have HO := hid ho
              have HL := hid hL
              have HB := hid hb
              clear HI ho hL hb
              go_wp2_with (first | ((with_reducible refine wpl_make22 ?_); refine mk_zeros rfl rfl ?_; intro w2 ho2 hb2 hz2; have hc2 := own_cell ho2 (j := 3) (v := .int .u8 0) (by rfl); have hf2 := ho2.free rfl 3; have HO2 := hid ho2; have HB2 := hid hb2; clear ho2 hb2 hz2) | (at_builtin; refine Hid.out ?_) | fail "arm")
              refine hid ?_
              have ho3 := HO2.out.set rfl 3 (.int .u8 (x.toNat : Int))
              rw [show (zA.map bv).set 3 (.int .u8 (x.toNat : Int)) = (zA.set 3 x).map bv from List.map_set.symm] at ho3
              have hb3 : Below wr.heap.size wr (w2.setCell ⟨wr.heap.size, 3, none⟩ (.int .u8 (x.toNat : Int))) := HB2.out.setCell (p := ⟨wr.heap.size, 3, none⟩) (Nat.le_refl _) _
              have hz3 : (w2.setCell ⟨wr.heap.size, 3, none⟩ (.int .u8 (x.toNat : Int))).heap.size = w2.heap.size := World.size_setCell _ _ _
              obtain ⟨W3, hW3⟩ : ∃ W3, W3 = w2.setCell ⟨wr.heap.size, 3, none⟩ (.int .u8 (x.toNat : Int)) := ⟨_, rfl⟩
              rw [← hW3] at ho3 hb3 hz3 ⊢
              clear hW3 hc2 hf2
              try rw [← hz3]
              have hz3b := hb3.size
              have HO3 := hid (ho3.mono hzz)
              have HB3 := hid hb3
              have HON := hid ((HO.out.below hb3 (Nat.le_refl _)).alloc (.cells #[.int .i64 (n : Int), .slice (some ⟨wr.heap.size, 0, none⟩) 128 128] 136))
              have HSR := hid (Src.row (P := Try.prog) (w := W3) (z := .agg #[.int .i64 0, .slice none 0 0]) (sz := 2) (m := 1) (c := 1) (e := 136) #[.int .i64 (n : Int), .slice (some ⟨wr.heap.size, 0, none⟩) 128 128] Try.underlying149 rfl (by simp [Value.oneCell']))
              clear ho3 hb3 hz3
              go_wp2_with (at_builtin; refine ap_wrs rfl _ _ 149 rfl W.heap.size rfl HON.out rfl HSR.out (by omega) (by simp; omega) ?_; intro E' ce' w' ho' hg')
              go_roundw
              case rel =>
                refine ⟨i + 1, E', ce', ws ++ [⟨(n : Int), some ⟨wr.heap.size, 0, none⟩, zA.set 3 x, 128⟩], by omega, by go_num, by simp, hid ⟨?_, ?_, ?_⟩⟩
                · rw [List.flatMap_append, List.flatMap_singleton, List.length_append]
                  exact ho'
                · refine Listed.snoc (HL.out.of fun P hP => ?_) hw24 n HN.out HQ.out _ ?_
                  · have hP1 := (hP.below HB3.out (Nat.le_refl _)).alloc (.cells #[.int .i64 (n : Int), .slice (some ⟨wr.heap.size, 0, none⟩) 128 128] 136)
                    exact hP1.kept hg' (own_apart hP1 HON.out (by decide))
                  · have hP1 := HO3.out.alloc (.cells #[.int .i64 (n : Int), .slice (some ⟨wr.heap.size, 0, none⟩) 128 128] 136)
                    exact hP1.kept hg' (own_apart hP1 HON.out (by decide))
                · exact Below.grown ((below_t HB.out HB3.out hzz).alloc (by omega) _) hg' (by simp; omega) (fun k hk => (HO.out.block k hk).1)
              case measure => simp [intOf]; omega
      · have hw : ¬ (ws.length : Int) < 24 := by omega
        have hii : (i : Int) < (l.length : Int) := by omega
        go_wp2_with fail
        go_ret
        exact ⟨B, cb, ws, rfl, HI.out⟩
    · have hii : ¬ (i : Int) < (l.length : Int) := by omega
      go_wp2_with fail
      go_ret
      exact ⟨B, cb, ws, rfl, HI.out⟩
end Go.Proofs.Ytppbcdcmpcagdaa
