/- The law's game of commits and restarts: its plain law, its memory, its moves (seven texts as one). -/
import Derived.Test.YtppbcdcmpcagdaaRedoW
import Derived.Test.YtppbcdcmpcagdaaRedoK
import Derived.Deep.QuietTactic
import Derived.BigQuiet
import Derived.Deep.RegionHeld3
import Derived.Deep.CutBlock
/- A log whose power goes: whatever a restart keeps, a recovery leaves the sectors of before or of behind the commit. -/
namespace Go.Proofs.Ytppbcdcmpcagdaa
open Go.RowKit Go.CP

theorem getD_set' (s : List (List UInt8)) (a i : Nat) (v : List UInt8) : (s.set a v).getD i [] = if a = i ∧ i < s.length then v else s.getD i [] := by
  by_cases h : i < s.length
  · rw [getD_set _ _ _ _ h]
    by_cases e : a = i
    · rw [if_pos e, if_pos ⟨e, h⟩]
    · rw [if_neg e, if_neg fun k => e k.1]
  · rw [if_neg fun k => h k.2]
    simp only [List.getD_eq_getElem?_getD]
    rw [List.getElem?_eq_none (by simp; omega), List.getElem?_eq_none (by omega)]
/-- A sector behind a restart: as it was, or one of what waited. -/
theorem setKept_or (keep : List Int) : ∀ (l : List Wt) (k : Nat) (s : List (List UInt8)) (i : Nat), (setKept keep k s l).getD i [] = s.getD i [] ∨ ∃ x ∈ l, x.1.toNat = i ∧ (setKept keep k s l).getD i [] = x.2
  | [], _, _, _ => .inl rfl
  | x :: l, k, s, i => by
    rw [setKept]
    rcases setKept_or keep l (k + 1) (if kept keep k then s.set x.1.toNat x.2 else s) i with h | ⟨y, hy, h1, h2⟩
    · rw [h]
      split
      · rw [getD_set']
        split
        · next e => exact .inr ⟨x, List.mem_cons_self, e.1, rfl⟩
        · exact .inl rfl
      · exact .inl rfl
    · exact .inr ⟨y, List.mem_cons_of_mem _ hy, h1, h2⟩
theorem setKept_same (keep : List Int) (l : List Wt) (s : List (List UInt8)) (i : Nat) (h : ∀ x ∈ l, x.1.toNat ≠ i) : (setKept keep 0 s l).getD i [] = s.getD i [] := by
  rcases setKept_or keep l 0 s i with e | ⟨x, hx, h1, -⟩
  · exact e
  · exact absurd h1 (h x hx)
theorem setAll_same (l : List Wt) (s : List (List UInt8)) (i : Nat) (h : ∀ x ∈ l, x.1.toNat ≠ i) : (setAll s l).getD i [] = s.getD i [] := by
  induction l generalizing s with
  | nil => rfl
  | cons x l ih =>
    rw [show setAll s (x :: l) = setAll (s.set x.1.toNat x.2) l from rfl, ih _ fun y hy => h y (List.mem_cons_of_mem _ hy), getD_set', if_neg fun e => h x List.mem_cons_self e.1]

/-- A log at rest over these sectors. -/
structure Idle (s now : List (List UInt8)) : Prop where
  len : s.length = now.length
  head : s.getD 1 [] = headL []
  rest : ∀ i, i < now.length → (i < 1 ∨ 26 ≤ i) → s.getD i [] = now.getD i []
/-- A log that bears writes. -/
structure Logged (s now : List (List UInt8)) (ws : List Wt) : Prop where
  len : s.length = now.length
  big : 64 ≤ now.length ∧ now.length ≤ 1024
  ne : ws ≠ []
  targ : targB now.length ws = true
  head : s.getD 1 [] = headL (ws.map (·.1))
  body : ∀ j, j < ws.length → s.getD (2 + j) [] = (ws.getD j (0, [])).2
  rest : ∀ i, i < now.length → (i < 1 ∨ 26 ≤ i) → lastL i ws = none → s.getD i [] = now.getD i []
/-- What the power may leave of a commit. -/
inductive Cut (now : List (List UInt8)) (ws : List Wt) (s : List (List UInt8)) (l : List Wt) : Prop
  | body (h : Idle s now) (hl : ∀ x ∈ l, 2 ≤ x.1 ∧ x.1 < 26)
  | head (h : Idle s now) (hn : 64 ≤ now.length ∧ now.length ≤ 1024) (ne : ws ≠ []) (ht : targB now.length ws = true) (hb : ∀ j, j < ws.length → s.getD (2 + j) [] = (ws.getD j (0, [])).2) (hl : ∀ x ∈ l, x = (1, headL (ws.map (·.1))))
  | home (h : Logged s now ws) (hl : ∀ x ∈ l, x ∈ ws)
  | mark (h : Logged s now ws) (hr : ∀ i, i < now.length → (i < 1 ∨ 26 ≤ i) → s.getD i [] = (setAll now ws).getD i []) (hl : ∀ x ∈ l, x = (1, headL []))
/-- What a restart may leave of it. -/
def Past (now : List (List UInt8)) (ws : List Wt) (s : List (List UInt8)) : Prop := Idle s now ∨ Logged s now ws ∨ Idle s (setAll now ws)

theorem targ_nums {n : Nat} {ws : List Wt} (h : targB n ws = true) : ∀ x ∈ ws, 0 ≤ x.1 ∧ x.1 < n ∧ (x.1 < 1 ∨ 26 ≤ x.1) ∧ x.2.length = 128 := by
  intro x hx
  obtain ⟨h1, -, h3⟩ := targ_ok h
  have a := h1 x hx
  have b := okN_iff.1 (h3 x hx)
  exact ⟨b.1, a.1, b.2.2, a.2⟩
theorem targ_24 {n : Nat} {ws : List Wt} (h : targB n ws = true) : ws.length ≤ 24 := by simpa using goodB_len (targ_ok h).2.1
theorem lastL_mem {n : Int} {x : Wt} : ∀ {l : List Wt}, x ∈ l → x.1 = n → lastL n l ≠ none
  | [], h, _ => by cases h
  | y :: l, h, e => by
    rw [lastL]
    intro k
    cases hl : lastL n l with
    | some d => rw [hl] at k; cases k
    | none =>
      rw [hl] at k
      dsimp only at k
      rcases List.mem_cons.1 h with rfl | h
      · rw [if_pos e] at k; cases k
      · exact lastL_mem h e hl
theorem Cut.past {now s : List (List UInt8)} {ws l : List Wt} (h : Cut now ws s l) (keep : List Int) : Past now ws (setKept keep 0 s l) := by
  cases h with
  | body h hl =>
    refine .inl ⟨(setKept_len _ _ _ _).trans h.len, ?_, fun i hi hr => ?_⟩
    · rw [setKept_same keep l s 1 fun x hx => by have := hl x hx; omega]
      exact h.head
    · rw [setKept_same keep l s i fun x hx => by have := hl x hx; omega]
      exact h.rest i hi hr
  | head h hn ne ht hb hl =>
    have h1 : ∀ i, i ≠ 1 → (setKept keep 0 s l).getD i [] = s.getD i [] := fun i hi => setKept_same keep l s i fun x hx => by rw [hl x hx]; simp; omega
    rcases setKept_or keep l 0 s 1 with e | ⟨x, hx, -, e⟩
    · exact .inl ⟨(setKept_len _ _ _ _).trans h.len, e.trans h.head, fun i hi hr => (h1 i (by omega)).trans (h.rest i hi hr)⟩
    · rw [hl x hx] at e
      exact .inr (.inl ⟨(setKept_len _ _ _ _).trans h.len, hn, ne, ht, e, fun j hj => (h1 _ (by omega)).trans (hb j hj), fun i hi hr _ => (h1 i (by omega)).trans (h.rest i hi hr)⟩)
  | home h hl =>
    have hw := targ_nums h.targ
    have hlog : ∀ i, 1 ≤ i → i < 26 → (setKept keep 0 s l).getD i [] = s.getD i [] := fun i h1 h2 => setKept_same keep l s i fun x hx => by have := hw x (hl x hx); omega
    have h24 := targ_24 h.targ
    refine .inr (.inl ⟨(setKept_len _ _ _ _).trans h.len, h.big, h.ne, h.targ, (hlog 1 (by omega) (by omega)).trans h.head, fun j hj => (hlog _ (by omega) (by omega)).trans (h.body j hj), fun i hi hr hn => ?_⟩)
    rw [setKept_same keep l s i fun x hx e => lastL_mem (hl x hx) (by have := hw x (hl x hx); omega) hn]
    exact h.rest i hi hr hn
  | mark h hr hl =>
    have h1 : ∀ i, i ≠ 1 → (setKept keep 0 s l).getD i [] = s.getD i [] := fun i hi => setKept_same keep l s i fun x hx => by rw [hl x hx]; simp; omega
    rcases setKept_or keep l 0 s 1 with e | ⟨x, hx, -, e⟩
    · exact .inr (.inl ⟨(setKept_len _ _ _ _).trans h.len, h.big, h.ne, h.targ, e.trans h.head, fun j hj => (h1 _ (by omega)).trans (h.body j hj), fun i hi hq hn => (h1 i (by omega)).trans (h.rest i hi hq hn)⟩)
    · rw [hl x hx] at e
      refine .inr (.inr ⟨(setKept_len _ _ _ _).trans (h.len.trans (setAll_len _ _).symm), e, fun i hi hq => (h1 i (by omega)).trans (hr i (by rw [setAll_len] at hi; exact hi) hq)⟩)

/-! ### calls that the power may cut off -/
theorem putGo_or (ws : List Wt) : ∀ {D D' : Drv} {e : Int}, D.dead = false → putGo D ws = (e, D') → D'.sure = D.sure ∧ ((e = 0 ∧ D'.dead = false ∧ D'.list = D.list ++ ws) ∨ (e = 11 ∧ D'.dead = true ∧ ∃ k, D'.list = D.list ++ ws.take k)) ∧ (D.fuse = -1 → e = 0 ∧ D'.fuse = -1) := by
  induction ws with
  | nil =>
    intro D D' e hd h
    cases h
    exact ⟨rfl, .inl ⟨rfl, hd, by simp⟩, fun h => ⟨rfl, h⟩⟩
  | cons x ws ih =>
    intro D D' e hd h
    rw [putGo] at h
    split at h
    · next h0 =>
      cases h
      exact ⟨rfl, .inr ⟨rfl, rfl, 0, by simp [Drv.dark]⟩, fun hf => by rw [hf] at h0; cases h0⟩
    · obtain ⟨h1, h2, h3⟩ := ih (D := { D.less with list := D.list ++ [x] }) hd h
      refine ⟨h1, ?_, fun hf => h3 (by show max (D.fuse - 1) (-1) = -1; rw [hf]; decide)⟩
      rcases h2 with ⟨a, b, c⟩ | ⟨a, b, k, c⟩
      · exact .inl ⟨a, b, by rw [c]; simp⟩
      · exact .inr ⟨a, b, k + 1, by rw [c]; simp⟩
theorem put_or {D D' : Drv} {e : Int} {ws : List Wt} (hd : D.dead = false) (hl : D.list = []) (ho : outB D.sure.length ws = false) (hlb : lenB ws = false) (h : D.put ws = (e, D')) :
    D'.sure = D.sure ∧ ((e = 0 ∧ D'.dead = false ∧ D'.list = ws) ∨ (e = 11 ∧ D'.dead = true ∧ ∀ x ∈ D'.list, x ∈ ws)) ∧ (D.fuse = -1 → e = 0 ∧ D'.fuse = -1) := by
  rw [Drv.put, if_neg (by simp [hd]), if_neg (by simp [ho]), if_neg (by simp [hlb])] at h
  obtain ⟨h1, h2, h3⟩ := putGo_or ws hd h
  refine ⟨h1, ?_, h3⟩
  rcases h2 with ⟨a, b, c⟩ | ⟨a, b, k, c⟩
  · exact .inl ⟨a, b, by rw [c, hl]; rfl⟩
  · exact .inr ⟨a, b, fun x hx => by rw [c, hl] at hx; exact List.mem_of_mem_take hx⟩
theorem flush_or {D D' : Drv} {e : Int} (hd : D.dead = false) (h : D.flush = (e, D')) :
    ((e = 0 ∧ D'.dead = false ∧ D'.sure = setAll D.sure D.list ∧ D'.list = []) ∨ (e = 11 ∧ D'.dead = true ∧ D'.sure = D.sure ∧ D'.list = D.list)) ∧ (D.fuse = -1 → e = 0 ∧ D'.fuse = -1) := by
  rw [Drv.flush, if_neg (by simp [hd])] at h
  split at h
  · next h0 =>
    cases h
    exact ⟨.inr ⟨rfl, rfl, rfl, rfl⟩, fun hf => by rw [hf] at h0; cases h0⟩
  · cases h
    exact ⟨.inl ⟨rfl, hd, rfl, rfl⟩, fun hf => ⟨rfl, by show max (D.fuse - 1) (-1) = -1; rw [hf]; decide⟩⟩
theorem mark_or {D D' : Drv} {e : Int} {l : List Int} (hd : D.dead = false) (hl : D.list = []) (h2 : 2 ≤ D.sure.length) (hg : goodB l = true) (h : D.mark l = (e, D')) :
    ((e = 0 ∧ D'.dead = false ∧ D'.sure = D.sure.set 1 (headL l) ∧ D'.list = []) ∨ (e = 11 ∧ D'.dead = true ∧ D'.sure = D.sure ∧ ∀ x ∈ D'.list, x = (1, headL l))) ∧ (D.fuse = -1 → e = 0 ∧ D'.fuse = -1) := by
  obtain ⟨e1, D1, h1⟩ : ∃ e1 D1, D.put [(1, headL l)] = (e1, D1) := ⟨_, _, rfl⟩
  rw [mark_of hg h1] at h
  obtain ⟨s1, c1, f1⟩ := put_or hd hl (by simp [outB]; omega) (by simp [lenB, headL_len (goodB_len hg)]) h1
  rcases c1 with ⟨rfl, d1, l1⟩ | ⟨rfl, d1, l1⟩
  · rw [if_pos rfl] at h
    obtain ⟨c2, f2⟩ := flush_or d1 h
    refine ⟨?_, fun hf => f2 (f1 hf).2⟩
    rcases c2 with ⟨a, b, c, d⟩ | ⟨a, b, c, d⟩
    · exact .inl ⟨a, b, by rw [c, s1, l1]; rfl, d⟩
    · exact .inr ⟨a, b, c.trans s1, fun x hx => by rw [d, l1] at hx; exact List.mem_singleton.1 hx⟩
  · rw [if_neg (by decide)] at h
    cases h
    exact ⟨.inr ⟨rfl, d1, s1, fun x hx => List.mem_singleton.1 (l1 x hx)⟩, fun hf => absurd (f1 hf).1 (by decide)⟩

/-- A drive with power for which nothing waits, over a log at rest. -/
structure Rest (D : Drv) (now : List (List UInt8)) : Prop where
  dead : D.dead = false
  list : D.list = []
  idle : Idle D.sure now
theorem setAll_at {now s : List (List UInt8)} {ws : List Wt} (ht : targB now.length ws = true) (hlen : s.length = now.length) (hrest : ∀ i, i < now.length → (i < 1 ∨ 26 ≤ i) → lastL i ws = none → s.getD i [] = now.getD i []) {i : Nat} (hi : i < now.length) (hr : i < 1 ∨ 26 ≤ i) :
    (setAll s ws).getD i [] = (setAll now ws).getD i [] := by
  have hw := targ_nums ht
  rw [setAll_getD ws i s (fun x hx => (hw x hx).1) (by omega), setAll_getD ws i now (fun x hx => (hw x hx).1) hi]
  cases hl : lastL i ws with
  | some d => rfl
  | none => exact hrest i hi hr hl
/-- What home leaves of a log that bears writes. -/
theorem home_or {D D' : Drv} {e : Int} {now : List (List UInt8)} {ws : List Wt} (hd : D.dead = false) (hl : D.list = []) (hL : Logged D.sure now ws) (h : D.home ws = (e, D')) :
    ((e = 0 ∧ Rest D' (setAll now ws)) ∨ (e = 11 ∧ D'.dead = true ∧ Cut now ws D'.sure D'.list)) ∧ (D.fuse = -1 → e = 0 ∧ D'.fuse = -1) := by
  have hw := targ_nums hL.targ
  have h24 := targ_24 hL.targ
  obtain ⟨e1, D1, h1⟩ : ∃ e1 D1, D.put ws = (e1, D1) := ⟨_, _, rfl⟩
  obtain ⟨e2, D2, h2⟩ : ∃ e2 D2, D1.flush = (e2, D2) := ⟨_, _, rfl⟩
  rw [home_of h1 h2] at h
  obtain ⟨s1, c1, f1⟩ := put_or hd hl (outB_of fun x hx => ⟨(hw x hx).1, by rw [hL.len]; exact (hw x hx).2.1⟩) (lenB_of fun x hx => (hw x hx).2.2.2) h1
  rcases c1 with ⟨rfl, d1, l1⟩ | ⟨rfl, d1, l1⟩
  · rw [if_neg (by decide)] at h
    obtain ⟨c2, f2⟩ := flush_or d1 h2
    rcases c2 with ⟨rfl, d2, s2, l2⟩ | ⟨rfl, d2, s2, l2⟩
    · rw [if_neg (by decide)] at h
      rw [s1, l1] at s2
      have hlog : ∀ i, 1 ≤ i → i < 26 → D2.sure.getD i [] = D.sure.getD i [] := fun i k1 k2 => by
        rw [s2]
        exact setAll_same ws D.sure i fun x hx => by have := hw x hx; omega
      have hall : ∀ i, i < now.length → (i < 1 ∨ 26 ≤ i) → D2.sure.getD i [] = (setAll now ws).getD i [] := fun i hi hr => by
        rw [s2]
        exact setAll_at hL.targ hL.len hL.rest hi hr
      have hlen2 : D2.sure.length = now.length := by rw [s2, setAll_len]; exact hL.len
      obtain ⟨c3, f3⟩ := mark_or d2 l2 (by rw [hlen2]; have := hL.big; omega) goodB_nil h
      refine ⟨?_, fun hf => f3 (f2 (f1 hf).2).2⟩
      rcases c3 with ⟨rfl, d3, s3, l3⟩ | ⟨rfl, d3, s3, l3⟩
      · refine .inl ⟨rfl, d3, l3, by rw [s3, List.length_set, setAll_len]; exact hlen2, ?_, fun i hi hr => ?_⟩
        · rw [s3, getD_set _ _ _ _ (by rw [hlen2]; have := hL.big; omega), if_pos rfl]
        · rw [setAll_len] at hi
          rw [s3, getD_set _ _ _ _ (by rw [hlen2]; exact hi), if_neg (by omega)]
          exact hall i hi hr
      · refine .inr ⟨rfl, d3, .mark ?_ (fun i hi hr => by rw [s3]; exact hall i hi hr) l3⟩
        rw [s3]
        refine ⟨hlen2, hL.big, hL.ne, hL.targ, (hlog 1 (by omega) (by omega)).trans hL.head, fun j hj => (hlog _ (by omega) (by omega)).trans (hL.body j hj), fun i hi hr hn => ?_⟩
        rw [hall i hi hr, setAll_getD ws i now (fun x hx => (hw x hx).1) hi, hn]
        rfl
    · rw [if_pos (by decide)] at h
      cases h
      refine ⟨.inr ⟨rfl, d2, .home (by rw [s2, s1]; exact hL) fun x hx => ?_⟩, fun hf => absurd (f2 (f1 hf).2).1 (by decide)⟩
      rw [l2, l1] at hx
      exact hx
  · rw [if_pos (by decide)] at h
    cases h
    exact ⟨.inr ⟨rfl, d1, .home (by rw [s1]; exact hL) l1⟩, fun hf => absurd (f1 hf).1 (by decide)⟩
theorem get_rest {D : Drv} (hd : D.dead = false) (hl : D.list = []) {i : Nat} (hi : i < D.sure.length) : D.get i = (0, D.sure.getD i []) := by
  rw [Drv.get, hd, if_neg (by simp), if_neg (by omega), Drv.at, hl]
  rfl
theorem waits_rest {D : Drv} {now : List (List UInt8)} (hd : D.dead = false) (hl : D.list = []) (h : Idle D.sure now) (h2 : 2 ≤ now.length) : D.waits = (0, []) := by
  have hg := get_rest hd hl (i := 1) (by rw [h.len]; omega)
  rw [h.head] at hg
  rw [waits_of hg, if_neg (by simp), headsL_head goodB_nil]
theorem recover_rest {D : Drv} {now : List (List UInt8)} (h : Rest D now) (h2 : 2 ≤ now.length) : D.recover = (0, D) := by
  rw [recover_of (waits_rest h.dead h.list h.idle h2) (e := 0) (ws := []) rfl, if_pos (.inr rfl)]
theorem gather_log {D : Drv} (hd : D.dead = false) (hl : D.list = []) : ∀ (ws : List Wt) (i : Nat), (∀ x ∈ ws, x.1 < D.sure.length) → 2 + i + ws.length ≤ D.sure.length → (∀ j, j < ws.length → D.sure.getD (2 + i + j) [] = (ws.getD j (0, [])).2) →
    gather D i (ws.map (·.1)) = (0, ws)
  | [], _, _, _, _ => rfl
  | x :: ws, i, hw, hn, hb => by
    rw [List.length_cons] at hn
    have h0 := hb 0 (by simp)
    have hg := get_rest hd hl (i := 2 + i) (by omega)
    rw [show 2 + i + 0 = 2 + i from rfl] at h0
    rw [h0] at hg
    have hx := hw x List.mem_cons_self
    rw [List.map_cons, gather_go (b := x.2) _ (by omega) (by simpa using hg), gather_log hd hl ws (i + 1) (fun y hy => hw y (List.mem_cons_of_mem _ hy)) (by omega) fun j hj => ?_]
    · rfl
    · have := hb (j + 1) (by simp; omega)
      rw [show 2 + (i + 1) + j = 2 + i + (j + 1) by omega, this]
      rfl
/-- A recovery of what a restart left. -/
theorem recover_past {D D' : Drv} {e : Int} {now : List (List UInt8)} {ws : List Wt} (hd : D.dead = false) (hl : D.list = []) (h2 : 2 ≤ now.length) (h : Past now ws D.sure) (hr : D.recover = (e, D')) :
    ((e = 0 ∧ (Rest D' now ∨ Rest D' (setAll now ws))) ∨ (e = 11 ∧ D'.dead = true ∧ Cut now ws D'.sure D'.list)) ∧ (D.fuse = -1 → e = 0 ∧ D'.fuse = -1) := by
  rcases h with h | h | h
  · rw [recover_rest ⟨hd, hl, h⟩ h2] at hr
    cases hr
    exact ⟨.inl ⟨rfl, .inl ⟨hd, hl, h⟩⟩, fun hf => ⟨rfl, hf⟩⟩
  · have h24 := targ_24 h.targ
    have hw := targ_nums h.targ
    have hg := get_rest hd hl (i := 1) (by rw [h.len]; omega)
    rw [h.head] at hg
    have hwt : D.waits = (0, ws.map (·.1)) := by rw [waits_of hg, if_neg (by simp), headsL_head (targ_ok h.targ).2.1]
    have hga := gather_log hd hl ws 0 (fun x hx => by rw [h.len]; exact (hw x hx).2.1) (by rw [h.len]; have := h.big; omega) h.body
    have hne : ws.map (·.1) ≠ [] := by
      intro k
      exact h.ne (List.map_eq_nil_iff.1 k)
    rw [recover_of hwt hga, if_neg (by simp [hne]), if_neg (by decide)] at hr
    obtain ⟨c, f⟩ := home_or hd hl h hr
    exact ⟨c.imp (fun k => ⟨k.1, .inr k.2⟩) id, f⟩
  · rw [recover_rest ⟨hd, hl, h⟩ (by rw [setAll_len]; exact h2)] at hr
    cases hr
    exact ⟨.inl ⟨rfl, .inr ⟨hd, hl, h⟩⟩, fun hf => ⟨rfl, hf⟩⟩
theorem lastL_bodyAt {ws : List Wt} {j : Nat} (hj : j < ws.length) : lastL ((2 + j : Nat) : Int) (bodyW ws) = some (ws.getD j (0, [])).2 := by
  have he : (bodyW ws)[j]? = some (((2 + j : Nat) : Int), (ws.getD j (0, [])).2) := by simp [bodyW, hj]
  refine lastL_at (x := (((2 + j : Nat) : Int), (ws.getD j (0, [])).2)) he rfl fun k y hk hy => ?_
  have hkl := (List.getElem?_eq_some_iff.1 hy).1
  have hkl2 : k < ws.length := by simpa [bodyW] using hkl
  have he2 : (bodyW ws)[k]? = some (((2 + k : Nat) : Int), (ws.getD k (0, [])).2) := by simp [bodyW, hkl2]
  rw [he2] at hy
  cases hy
  show ((2 + k : Nat) : Int) ≠ ((2 + j : Nat) : Int)
  omega
/-- A commit that the power may cut off. -/
theorem commit_or {D D' : Drv} {e : Int} {now : List (List UInt8)} {ws : List Wt} (h : Rest D now) (hn : 64 ≤ now.length ∧ now.length ≤ 1024) (hne : ws ≠ []) (ht : targB now.length ws = true) (hc : D.commit ws = (e, D')) :
    (e = 0 ∧ Rest D' (setAll now ws)) ∨ (e = 11 ∧ D'.dead = true ∧ Cut now ws D'.sure D'.list) := by
  have hw := targ_nums ht
  have h24 := targ_24 ht
  have hlen := h.idle.len
  obtain ⟨e1, D1, h1⟩ : ∃ e1 D1, D.put (bodyW ws) = (e1, D1) := ⟨_, _, rfl⟩
  obtain ⟨e2, D2, h2⟩ : ∃ e2 D2, D1.flush = (e2, D2) := ⟨_, _, rfl⟩
  obtain ⟨e3, D3, h3⟩ : ∃ e3 D3, D2.mark (ws.map (·.1)) = (e3, D3) := ⟨_, _, rfl⟩
  have hbm : ∀ y ∈ bodyW ws, 2 ≤ y.1 ∧ y.1 < 26 := fun y hy => by
    obtain ⟨j, hj, e, -⟩ := bodyW_mem hy
    omega
  rw [commit_of hne (by rw [hlen]; exact ht) (waits_rest h.dead h.list h.idle (by omega)) h1 h2 h3, if_neg (by decide)] at hc
  obtain ⟨s1, c1, -⟩ := put_or h.dead h.list (outB_of fun y hy => by have := hbm y hy; omega) (lenB_of fun y hy => by obtain ⟨j, hj, -, x, hx, e⟩ := bodyW_mem hy; rw [e]; exact (hw x hx).2.2.2) h1
  rcases c1 with ⟨rfl, d1, l1⟩ | ⟨rfl, d1, l1⟩
  · rw [if_neg (by decide)] at hc
    obtain ⟨c2, -⟩ := flush_or d1 h2
    rcases c2 with ⟨rfl, d2, s2, l2⟩ | ⟨rfl, d2, s2, l2⟩
    · rw [if_neg (by decide)] at hc
      rw [s1, l1] at s2
      have hlen2 : D2.sure.length = now.length := by rw [s2, setAll_len]; exact hlen
      have hout : ∀ i, (i < 2 ∨ 26 ≤ i) → D2.sure.getD i [] = D.sure.getD i [] := fun i hi => by
        rw [s2]
        exact setAll_same (bodyW ws) D.sure i fun y hy => by have := hbm y hy; omega
      have hi2 : Idle D2.sure now := ⟨hlen2, (hout 1 (by omega)).trans h.idle.head, fun i hi hr => (hout i (by omega)).trans (h.idle.rest i hi hr)⟩
      have hb2 : ∀ j, j < ws.length → D2.sure.getD (2 + j) [] = (ws.getD j (0, [])).2 := fun j hj => by
        rw [s2, setAll_getD (bodyW ws) (2 + j) D.sure (fun y hy => by have := hbm y hy; omega) (by omega), lastL_bodyAt hj]
        rfl
      obtain ⟨c3, -⟩ := mark_or d2 l2 (by omega) (targ_ok ht).2.1 h3
      rcases c3 with ⟨rfl, d3, s3, l3⟩ | ⟨rfl, d3, s3, l3⟩
      · rw [if_neg (by decide)] at hc
        have hL : Logged D3.sure now ws := by
          refine ⟨by rw [s3, List.length_set]; exact hlen2, hn, hne, ht, ?_, fun j hj => ?_, fun i hi hr _ => ?_⟩
          · rw [s3, getD_set _ _ _ _ (by omega), if_pos rfl]
          · rw [s3, getD_set _ _ _ _ (by omega), if_neg (by omega)]
            exact hb2 j hj
          · rw [s3, getD_set _ _ _ _ (by omega), if_neg (by omega)]
            exact hi2.rest i hi hr
        exact (home_or d3 l3 hL hc).1
      · rw [if_pos (by decide)] at hc
        cases hc
        refine .inr ⟨rfl, d3, .head (by rw [s3]; exact hi2) hn hne ht (by rw [s3]; exact hb2) l3⟩
    · rw [if_pos (by decide)] at hc
      cases hc
      refine .inr ⟨rfl, d2, .body (by rw [s2, s1]; exact h.idle) fun x hx => ?_⟩
      rw [l2, l1] at hx
      exact hbm x hx
  · rw [if_pos (by decide)] at hc
    cases hc
    exact .inr ⟨rfl, d1, .body (by rw [s1]; exact h.idle) fun x hx => hbm x (l1 x hx)⟩
/-- A drive whose power is gone. -/
theorem commit_dead {D : Drv} {n : Nat} {ws : List Wt} (hd : D.dead = true) (hn : D.sure.length = n) (hne : ws ≠ []) (ht : targB n ws = true) : D.commit ws = (11, D) := by
  have hg : D.get 1 = (11, []) := by rw [Drv.get, hd, if_pos rfl]
  have hw : D.waits = (11, []) := by rw [waits_of hg, if_pos (by decide)]
  obtain ⟨e1, D1, h1⟩ : ∃ e1 D1, D.put (bodyW ws) = (e1, D1) := ⟨_, _, rfl⟩
  obtain ⟨e2, D2, h2⟩ : ∃ e2 D2, D1.flush = (e2, D2) := ⟨_, _, rfl⟩
  obtain ⟨e3, D3, h3⟩ : ∃ e3 D3, D2.mark (ws.map (·.1)) = (e3, D3) := ⟨_, _, rfl⟩
  rw [commit_of hne (by rw [hn]; exact ht) hw h1 h2 h3, if_pos (by decide)]
theorem recover_dead {D : Drv} (hd : D.dead = true) : D.recover = (11, D) := by
  have hg : D.get 1 = (11, []) := by rw [Drv.get, hd, if_pos rfl]
  have hw : D.waits = (11, []) := by rw [waits_of hg, if_pos (by decide)]
  rw [recover_of hw (e := 0) (ws := []) rfl, if_pos (.inl (by decide))]
theorem commit_bad {D : Drv} {ws : List Wt} (hne : ws ≠ []) (ht : targB D.sure.length ws = false) : D.commit ws = (1, D) := by
  rw [Drv.commit, if_neg hne, if_neg (by simp [ht])]

/-! ### the game -/
/-- A drive, the sectors that there should be, and whether the power is gone. -/
structure Game where
  d : Drv
  now : List (List UInt8)
  maybe : List (List UInt8)
  off : Bool
structure Game.Ok (G : Game) (n : Nat) : Prop where
  big : 64 ≤ n ∧ n ≤ 1024
  now : G.now.length = n
  fit : Fit G.d 100
  sure : G.d.sure.length = n
  on : G.off = false → Rest G.d G.now
  cut : G.off = true → G.d.dead = true ∧ ∃ ws, G.maybe = setAll G.now ws ∧ Cut G.now ws G.d.sure G.d.list
/-- Just these sectors, but for the log's? -/
def sameB (D : Drv) (want : List (List UInt8)) : Bool := (List.range want.length).all fun i => decide ((D.get i).1 = 0) && (decide ((D.get i).2 = want.getD i []) || (decide (1 ≤ i) && decide (i < 26)))
theorem sameB_rest {D : Drv} {now : List (List UInt8)} (h : Rest D now) : sameB D now = true := by
  unfold sameB
  rw [List.all_eq_true]
  intro i hi
  have hl := List.mem_range.1 hi
  rw [get_rest h.dead h.list (by rw [h.idle.len]; exact hl)]
  by_cases hr : i < 1 ∨ 26 ≤ i
  · rw [h.idle.rest i hl hr]; simp
  · simp; omega
theorem rest_sameB {D : Drv} {now want : List (List UInt8)} (h : Rest D now) (hl : want.length = now.length) (hs : sameB D want = true) : Rest D want := by
  refine ⟨h.dead, h.list, h.idle.len.trans hl.symm, h.idle.head, fun i hi hr => ?_⟩
  unfold sameB at hs
  have := (List.all_eq_true.1 hs) i (List.mem_range.2 hi)
  rw [get_rest h.dead h.list (by rw [h.idle.len, ← hl]; exact hi)] at this
  rw [Bool.and_eq_true, Bool.or_eq_true, Bool.and_eq_true, decide_eq_true_eq, decide_eq_true_eq, decide_eq_true_eq, decide_eq_true_eq] at this
  rcases this.2 with e | e
  · exact e
  · omega
end Go.Proofs.Ytppbcdcmpcagdaa
/- The game of commits and restarts as plain data: what each move leaves. -/
namespace Go.Proofs.Ytppbcdcmpcagdaa
open Go.RowKit Go.CP

/-- A game whose drive has power and for which nothing waits. -/
structure Game.Up (G : Game) (n : Nat) : Prop where
  big : 64 ≤ n ∧ n ≤ 1024
  now : G.now.length = n
  fit : Fit G.d 0
  sure : G.d.sure.length = n
  dead : G.d.dead = false
  list : G.d.list = []
  on : G.off = false → Idle G.d.sure G.now
  past : G.off = true → ∃ ws, G.maybe = setAll G.now ws ∧ Past G.now ws G.d.sure
/-- A game in the midst of a restart. -/
structure Game.Loose (G : Game) (n : Nat) : Prop where
  big : 64 ≤ n ∧ n ≤ 1024
  now : G.now.length = n
  fit : Fit G.d 100
  sure : G.d.sure.length = n
  on : G.off = false → Rest G.d G.now
  cut : G.off = true → ∃ ws, G.maybe = setAll G.now ws ∧ (Rest G.d G.now ∨ Rest G.d G.maybe ∨ Cut G.now ws G.d.sure G.d.list)
theorem Game.Ok.loose {G : Game} {n : Nat} (h : G.Ok n) : G.Loose n :=
  ⟨h.big, h.now, h.fit, h.sure, h.on, fun ho => by
    obtain ⟨-, ws, h1, h2⟩ := h.cut ho
    exact ⟨ws, h1, .inr (.inr h2)⟩⟩
theorem Game.Loose.restart {G : Game} {n : Nat} (h : G.Loose n) (keep : List Int) : Game.Up { G with d := G.d.restart keep } n := by
  have hs : (setKept keep 0 G.d.sure G.d.list).length = n := (setKept_len _ _ _ _).trans h.sure
  have hr : ∀ now, Rest G.d now → Idle (setKept keep 0 G.d.sure G.d.list) now := fun now hR => by
    rw [hR.list]
    exact hR.idle
  refine ⟨h.big, h.now, ⟨by show (-1 : Int) ≤ -1; decide, by show (-1 : Int) ≤ 9223372036854775807; decide, Nat.le_refl _, by show (setKept keep 0 G.d.sure G.d.list).length ≤ 1000000; have := h.big; omega⟩, hs, rfl, rfl, fun ho => hr _ (h.on ho), fun ho => ?_⟩
  obtain ⟨ws, h1, h2⟩ := h.cut ho
  refine ⟨ws, h1, ?_⟩
  rcases h2 with h2 | h2 | h2
  · exact .inl (hr _ h2)
  · have := hr _ h2
    rw [h1] at this
    exact .inr (.inr this)
  · exact h2.past keep
theorem Game.Up.fuse {G : Game} {n : Nat} (h : G.Up n) {k : Int} (hk : k < 9223372036854775808) : Game.Up { G with d := G.d.fuseTo k } n :=
  ⟨h.big, h.now, ⟨by show (-1 : Int) ≤ max k (-1); omega, by show max k (-1) ≤ 9223372036854775807; omega, h.fit.list, h.fit.sure⟩, h.sure, h.dead, h.list, h.on, h.past⟩
theorem gather_len : ∀ (l : List Int) {D : Drv} {i : Nat}, (gather D i l).2.length ≤ l.length
  | [], _, _ => Nat.le_refl _
  | n :: l, D, i => by
    have ih := gather_len l (D := D) (i := i + 1)
    rw [gather]
    split
    · simp
    · obtain ⟨e, b⟩ := D.get (2 + i : Nat)
      dsimp only
      split
      · simp
      · generalize gather D (i + 1) l = p at ih ⊢
        obtain ⟨e2, ws⟩ := p
        dsimp only at ih ⊢
        split
        · simp
        · simp; omega
theorem Fit.recover {D : Drv} {N : Nat} (h : Fit D N) : Fit D.recover.2 (N + 25) ∧ D.recover.2.sure.length = D.sure.length := by
  obtain ⟨x, l, hx⟩ : ∃ x l, D.waits = (x, l) := ⟨_, _, rfl⟩
  obtain ⟨e, ws, hg⟩ : ∃ e ws, gather D 0 l = (e, ws) := ⟨_, _, rfl⟩
  have h24 := waits_len hx
  have hwl := gather_len l (D := D) (i := 0)
  rw [hg] at hwl
  dsimp only at hwl
  rw [recover_of hx hg]
  split
  · exact ⟨h.mono (by omega), rfl⟩
  · split
    · exact ⟨h.mono (by omega), rfl⟩
    · obtain ⟨h1, h2⟩ := h.home ws
      exact ⟨h1.mono (by omega), h2⟩
/-- A recovery behind a restart. -/
theorem Game.Up.recover {G : Game} {n : Nat} (h : G.Up n) {e : Int} {D' : Drv} (hr : G.d.recover = (e, D')) :
    (e = 0 ∨ e = 11) ∧ Game.Loose { G with d := D' } n ∧ (G.d.fuse = -1 → e = 0 ∧ (Rest D' G.now ∨ (G.off = true ∧ Rest D' G.maybe))) := by
  have hbig := h.big
  have hnow := h.now
  obtain ⟨hf, hs⟩ := h.fit.recover
  rw [hr] at hf hs
  cases ho : G.off with
  | false =>
    have hR : Rest G.d G.now := ⟨h.dead, h.list, h.on ho⟩
    rw [recover_rest hR (by omega)] at hr
    cases hr
    exact ⟨.inl rfl, ⟨hbig, hnow, hf.mono (by omega), h.sure, fun _ => hR, (fun k => by cases k)⟩, fun _ => ⟨rfl, .inl hR⟩⟩
  | true =>
    obtain ⟨ws, h1, h2⟩ := h.past ho
    obtain ⟨c, f⟩ := recover_past h.dead h.list (by omega) h2 hr
    refine ⟨c.imp (fun k => k.1) (fun k => k.1), ⟨hbig, hnow, hf.mono (by omega), hs.trans h.sure, (fun k => by cases k), fun _ => ⟨ws, h1, ?_⟩⟩, fun hfu => ?_⟩
    · rcases c with ⟨-, c | c⟩ | ⟨-, -, c⟩
      · exact .inl c
      · exact .inr (.inl (by rw [← h1] at c; exact c))
      · exact .inr (.inr c)
    · have he := (f hfu).1
      refine ⟨he, ?_⟩
      rcases c with ⟨-, c | c⟩ | ⟨c, -, -⟩
      · exact .inl c
      · exact .inr ⟨rfl, by rw [← h1] at c; exact c⟩
      · rw [he] at c; cases c
/-- The sectors that there should be, behind a restart that a game has got over. -/
def Game.next (G : Game) (D' : Drv) : List (List UInt8) := if G.off = true ∧ sameB D' G.maybe = true then G.maybe else G.now
theorem Game.Up.done {G : Game} {n : Nat} (h : G.Up n) {e : Int} {D' : Drv} (hr : G.d.recover = (e, D')) (hf : G.d.fuse = -1) :
    e = 0 ∧ sameB D' (G.next D') = true ∧ Game.Ok ⟨D', G.next D', G.maybe, false⟩ n := by
  obtain ⟨-, hL, hk⟩ := h.recover hr
  obtain ⟨he, hR⟩ := hk hf
  have hnow := h.now
  have key : Rest D' (G.next D') ∧ (G.next D').length = n := by
    unfold Game.next
    split
    · next hc =>
      obtain ⟨ws, h1, -⟩ := h.past hc.1
      have hl : G.maybe.length = G.now.length := by rw [h1, setAll_len]
      refine ⟨?_, hl.trans hnow⟩
      rcases hR with hR | hR
      · exact rest_sameB hR hl hc.2
      · exact hR.2
    · next hc =>
      refine ⟨?_, hnow⟩
      rcases hR with hR | hR
      · exact hR
      · exact absurd ⟨hR.1, sameB_rest hR.2⟩ hc
  exact ⟨he, sameB_rest key.1, h.big, key.2, hL.fit, hL.sure, fun _ => key.1, (fun k => by cases k)⟩
/-- A commit. -/
theorem Game.Ok.commit {G : Game} {n : Nat} (h : G.Ok n) (ho : G.off = false) {ws : List Wt} (hne : ws ≠ []) (ht : targB n ws = true) {e : Int} {D' : Drv} (hc : G.d.commit ws = (e, D')) :
    (e = 0 ∧ Game.Ok { G with d := D', now := setAll G.now ws } n) ∨ (e = 11 ∧ Game.Ok ⟨D', G.now, setAll G.now ws, true⟩ n) := by
  have hbig := h.big
  have hnow := h.now
  have hR := h.on ho
  obtain ⟨hf, hs⟩ := Fit.commit (D := G.d) (N := 0) ⟨h.fit.lo, h.fit.up, by rw [hR.list]; exact Nat.le_refl _, h.fit.sure⟩ ws
  rw [hc] at hf hs
  have h24 : ws.length ≤ 24 := targ_24 ht
  have hs' : D'.sure.length = n := hs.trans h.sure
  have hl : (setAll G.now ws).length = n := (setAll_len _ _).trans hnow
  rcases commit_or hR (by omega) hne (by rw [hnow]; exact ht) hc with ⟨he, hr⟩ | ⟨he, hd, hcut⟩
  · refine .inl ⟨he, hbig, hl, ⟨hf.lo, hf.up, ?_, hf.sure⟩, hs', fun _ => hr, fun k => absurd (ho.symm.trans k) (by decide)⟩
    show D'.list.length ≤ 100
    rw [hr.list]; simp
  · refine .inr ⟨he, hbig, hnow, ⟨hf.lo, hf.up, ?_, hf.sure⟩, hs', (fun k => by cases k), fun _ => ⟨hd, ws, rfl, hcut⟩⟩
    have h0 : D'.list.length ≤ 0 + 2 * ws.length + 2 := hf.list
    show D'.list.length ≤ 100
    omega
end Go.Proofs.Ytppbcdcmpcagdaa
/- The law's game of commits and restarts in memory: contracts of its same and put. -/
namespace Go.Proofs.Ytppbcdcmpcagdaa
open Go.RowKit Go.CP

def svR (l : List UInt8) : Value := .string (bstr l)
abbrev StrsR (w : World) (A : Option Addr) (l : List (List UInt8)) : Prop := Cells w A (l.map svR)
theorem StrsR.at {w : World} {A : Option Addr} {l : List (List UInt8)} (h : StrsR w A l) {i : Nat} {s : List UInt8} (hi : l[i]? = some s) : ∃ b off, A = some ⟨b, off, none⟩ ∧ w.cell? ⟨b, off + i, none⟩ = some (.string (bstr s)) := by
  obtain ⟨b, off, e, hc⟩ := h i (svR s) (by rw [List.getElem?_map, hi]; rfl)
  exact ⟨b, off, e, hc⟩
/-- A block of cells. -/
def BlkR (W : World) (k : Nat) (t : TypeId) (cs : List Value) : Prop := W.heap[k]? = some (.cells cs.toArray t (0, 0))
theorem BlkR.cell {W : World} {k : Nat} {t : TypeId} {cs : List Value} (h : BlkR W k t cs) {j : Nat} {u : Value} (hj : cs[j]? = some u) : W.cell? ⟨k, j, none⟩ = some u := by
  rw [cell_of_row _ _ _ _ _ (0, 0) h]; simpa using hj
theorem BlkR.lt {W : World} {k : Nat} {t : TypeId} {cs : List Value} (h : BlkR W k t cs) : k < W.heap.size := (Array.getElem?_eq_some_iff.1 (show W.heap[k]? = _ from h)).1
theorem BlkR.below {W W' : World} {k : Nat} {t : TypeId} {cs : List Value} (h : BlkR W k t cs) (hb : Below W.heap.size W W') : BlkR W' k t cs := (hb.block k h.lt).trans h
theorem BlkR.new (W : World) (t : TypeId) (cs : List Value) : BlkR (W.alloc (.cells cs.toArray t)) W.heap.size t cs := heap_alloc_new W _
theorem gstr_eq (a b : List UInt8) : (bstr a == bstr b) = decide (a = b) := by
  show ((bstr a).data == (bstr b).data) = decide (a = b)
  by_cases h : a = b
  · simp [h]
  · simp [h]
theorem gself (m : List UInt8) : (bstr m == bstr m) = true ∧ (bstr m != bstr m) = false := by
  have h : (bstr m == bstr m) = true := by rw [gstr_eq]; simp
  exact ⟨h, by rw [bne, h]; rfl⟩
theorem gother {l m : List UInt8} (h : l ≠ m) : (bstr l != bstr m) = true := by
  have h : (bstr l == bstr m) = false := by rw [gstr_eq]; simpa using h
  rw [bne, h]; rfl
theorem gbelowN {B : Nat} {w w' : World} (h : ∃ n, w' = w.drewN n) : Below B w w' := by
  obtain ⟨n, rfl⟩ := h
  exact below_drewN (Below.refl _ _) n
/-- What a Get hands back, as one form. -/
theorem get_form (W : World) (g s : Nat) (A : Option Addr) (c : Nat) (D : Drv) (h : DriveIs W g s A c D) (i : Int) (hf : Fit D 1000000) (x : Int) (l : List UInt8) (hx : D.get i = (x, l)) :
    Calls Try.prog 103 #[.pointer (some ⟨g, 0, none⟩), .int .i64 i] W fun e W' => ∃ P cp, e = .returned (.tuple #[.slice P l.length cp, .int .i64 x]) ∧ Hid (Bytes W' P l ∧ Below W.heap.size W W') := by
  refine (drv_get W g s A c D h i hf.sure (Nat.le_trans hf.list (by decide))).mono ?_
  rw [hx]
  rintro e W' ⟨hb, ⟨e1, e2, b, rfl, -, e4⟩ | ⟨e1, e2, rfl⟩⟩
  · dsimp only at e1 e2 e4
    subst e1
    exact ⟨some ⟨b, 0, none⟩, 128, by rw [e2], hid ⟨block_bytes e4, hb⟩⟩
  · dsimp only at e1 e2
    subst e2
    exact ⟨none, 0, rfl, hid ⟨Cells.nil _ _, hb⟩⟩
/-- Is a sector as it should be? -/
def sameAt (D : Drv) (want : List (List UInt8)) (i : Nat) : Bool := decide ((D.get i).1 = 0) && (decide ((D.get i).2 = want.getD i []) || (decide (1 ≤ i) && decide (i < 26)))
def sameTo (D : Drv) (want : List (List UInt8)) (i : Nat) : Bool := (List.range i).all (sameAt D want)
theorem sameB_to (D : Drv) (want : List (List UInt8)) : sameB D want = sameTo D want want.length := rfl
theorem sameTo_succ (D : Drv) (want : List (List UInt8)) (i : Nat) : sameTo D want (i + 1) = (sameTo D want i && sameAt D want i) := by
  simp [sameTo, List.range_succ]
theorem sameTo_false {D : Drv} {want : List (List UInt8)} {i : Nat} (h : sameAt D want i = false) (hi : i < want.length) : sameB D want = false := by
  rw [sameB_to, sameTo, List.all_eq_false]
  exact ⟨i, List.mem_range.2 hi, by rw [h]; simp⟩
theorem sameAt_of {D : Drv} {want : List (List UInt8)} {i : Nat} {x : Int} {l m : List UInt8} (hx : D.get i = (x, l)) (hm : want[i]? = some m) : sameAt D want i = (decide (x = 0) && (decide (l = m) || (decide (1 ≤ i) && decide (i < 26)))) := by
  rw [sameAt, hx, List.getD_eq_getElem?_getD, hm]
  rfl
set_option maxHeartbeats 4000000 in
set_option maxRecDepth 100000 in
theorem same_any (W : World) (gb g s : Nat) (A : Option Addr) (c : Nat) (D : Drv) (x1 x2 x3 : Value) (hG : BlkR W gb 175 [.pointer (some ⟨g, 0, none⟩), x1, x2, x3]) (h : DriveIs W g s A c D) (hf : Fit D 1000000)
    (QA : Option Addr) (want : List (List UInt8)) (qc : Nat) (hq : StrsR W QA want) (hl : want.length ≤ 1024) :
    Calls Try.prog 176 #[.pointer (some ⟨gb, 0, none⟩), .slice QA want.length qc] W fun e W' => e = .returned (.bool (sameB D want)) ∧ Below W.heap.size W W' := by
  have HG := hid hG
  have HD := hid h
  have HQ := hid hq
  have hli : (want.length : Int) ≤ 1024 := by omega
  obtain ⟨sb, hsb⟩ : ∃ sb, sameB D want = sb := ⟨_, rfl⟩
  rw [hsb]
  have HSB := hid hsb
  clear hG h hq hsb
  go_enter Try.func176, Try.ntmps176
  go_wp2_with fail
  go_loopw [5] (fun iv' wr => ∃ i : Nat, i ≤ want.length ∧ iv' = .int .i64 i ∧ Hid (sameTo D want i = true ∧ Below W.heap.size W wr)) (fun iv' _ => want.length - (intOf iv').toNat)
  case atStart => exact ⟨0, by omega, rfl, hid ⟨rfl, Below.refl _ _⟩⟩
  case round =>
    obtain ⟨i, hi, rfl, HI⟩ := hrel
    by_cases hlt : i < want.length
    · have hii : (i : Int) < (want.length : Int) := by omega
      obtain ⟨m, hm⟩ := get_of_lt want hlt
      obtain ⟨x, l, hx⟩ : ∃ x l, D.get i = (x, l) := ⟨_, _, rfl⟩
      have HS := hid (sameAt_of hx hm)
      have hg0 : wr.cell? ⟨gb, 0, none⟩ = some (.pointer (some ⟨g, 0, none⟩)) := (HG.out.below HI.out.2).cell (j := 0) rfl
      have HGET := hid (get_form wr g s A c D (HD.out.below HI.out.2 (Nat.le_refl _)) i hf x l hx)
      have HM := hid hm
      clear hx hm
      go_wp2_with fail
      refine HGET.out.mono ?_
      clear HGET
      rintro e w2 ⟨P, cp, rfl, HR2⟩
      have HB2 := hid (below_t HI.out.2 HR2.out.2 HI.out.2.size)
      obtain ⟨qb, qo, rfl, hqc⟩ := StrsR.at (Cells.below HQ.out HB2.out (Nat.le_refl _)) HM.out
      have hcv : ∀ n, (convert 22 9 (.slice P l.length cp)).run Try.prog (w2.drewN n) = .ok (.string (bstr l)) (w2.drewN n) := fun n => cv_bytes cp (show Bytes (w2.drewN n) P l from HR2.out.1)
      clear hg0
      by_cases hx0 : x = 0
      · subst hx0
        by_cases hlm : l = m
        · subst hlm
          have hsf := gself l
          have HT : Hid (sameTo D want (i + 1) = true) := hid (by rw [sameTo_succ, HI.out.1, HS.out]; simp)
          go_wp2_with fail
          go_quiet (fail)
          go_wp2_with fail
          go_roundw
          case rel => exact ⟨i + 1, by omega, by go_num, hid ⟨HT.out, below_t HB2.out (gbelowN ⟨_, rfl⟩) HB2.out.size⟩⟩
          case measure => simp [intOf]; omega
        · have hsf := gother hlm
          have hs1 : (l == m) = false := by simpa using hlm
          have hs2 : (l != m) = true := by simpa using hlm
          have HLM := hid hlm
          clear hlm
          by_cases hr : i < 1 ∨ 26 ≤ i
          · have HF : Hid (sb = false) := hid (HSB.out.symm.trans (sameTo_false (by rw [HS.out]; simp [HLM.out]; omega) hlt))
            rcases hr with hr | hr
            · have hr1 : (i : Int) < 1 := by omega
              go_wp2_with fail
              go_quiet (fail)
              go_wp2_with fail
              go_ret
              exact ⟨by rw [HF.out]; rfl, below_t HB2.out (gbelowN ⟨_, rfl⟩) HB2.out.size⟩
            · have hr1 : ¬ (i : Int) < 1 := by omega
              have hr2 : (26 : Int) ≤ i := by omega
              go_wp2_with fail
              go_quiet (fail)
              go_wp2_with fail
              go_ret
              exact ⟨by rw [HF.out]; rfl, below_t HB2.out (gbelowN ⟨_, rfl⟩) HB2.out.size⟩
          · have hr1 : ¬ (i : Int) < 1 := by omega
            have hr2 : ¬ (26 : Int) ≤ i := by omega
            have HT : Hid (sameTo D want (i + 1) = true) := hid (by rw [sameTo_succ, HI.out.1, HS.out]; simp; omega)
            go_wp2_with fail
            go_quiet (fail)
            go_wp2_with fail
            go_roundw
            case rel => exact ⟨i + 1, by omega, by go_num, hid ⟨HT.out, below_t HB2.out (gbelowN ⟨_, rfl⟩) HB2.out.size⟩⟩
            case measure => simp [intOf]; omega
      · have hx1 : (x != 0) = true := by rw [bne_iff_ne]; exact hx0
        have HF : Hid (sb = false) := hid (HSB.out.symm.trans (sameTo_false (by rw [HS.out]; simp [hx0]) hlt))
        clear hx0
        go_wp2_with fail
        go_quiet (fail)
        go_wp2_with fail
        go_ret
        exact ⟨by rw [HF.out]; rfl, below_t HB2.out (gbelowN ⟨_, rfl⟩) HB2.out.size⟩
    · have hk : i = want.length := by omega
      have hik : ¬ (i : Int) < (want.length : Int) := by omega
      have HT : Hid (sb = true) := hid (by rw [← HSB.out, sameB_to, ← hk]; exact HI.out.1)
      clear hk
      go_wp2_with fail
      go_ret
      exact ⟨by rw [HT.out]; rfl, HI.out.2⟩
end Go.Proofs.Ytppbcdcmpcagdaa
/- The law's game of commits and restarts: contract of its put. -/
namespace Go.Proofs.Ytppbcdcmpcagdaa
open Go.RowKit Go.CP

theorem ginfo9 : Try.prog.info? 9 = some Try.t9 := by kernel_rfl
theorem gap_strs {w : World} {ops : Array Oper} {rest : List Oper} {o : Oper} {a : Act} {Q : Exit → Act → World → Prop} (hgd : o.guard = none) (s x : Operand) (tx : TypeId)
    (ho : o.op = .call { callee := .builtin .append, args := #[s, x], argTypes := #[110, tx] }) (base : Nat)
    {A : Option Addr} {n c : Nat} {xs : List Value} (hs : a.eval s = .slice A n c) (hown : Go.CP.Own w base 9 1 A n c xs)
    {vx : Value} {m : Nat} {news : List Value} (hvx : a.eval x = vx) (hx : Src Try.prog w 1 (.string ByteArray.empty) tx vx m news)
    (hbytes : (n + m) * 16 ≤ 225000000000000) (hbase : base ≤ w.heap.size)
    (h : ∀ A' c' w', Go.CP.Own w' base 9 1 A' (n + m) c' (xs ++ news) → w.grownBy w' (blockOf A) → wpList Try.prog ops Q rest (a.put o.dst (.slice A' (n + m) c')) w') : wpList Try.prog ops Q (o :: rest) a w :=
  wpList_append_Own w hgd s x 110 tx ho base 9 Try.t9 (.string ByteArray.empty) 1 16 Try.underlying110 ginfo9 (by kernel_rfl) (by kernel_rfl) (by kernel_rfl) rfl (by decide) (by decide) (by decide) A n c xs hs hown vx m news hvx hx hbytes hbase h
theorem Src.strsR {w : World} {tx t : TypeId} {a : Option Addr} {c : Nat} {l : List (List UInt8)} (hu : Try.prog.underlying tx = some (.slice t)) (hc : StrsR w a l) : Src Try.prog w 1 (.string ByteArray.empty) tx (.slice a l.length c) l.length (l.map svR) :=
  Src.slice hu hc (by simp) (by intro u hu; simp at hu; obtain ⟨x, _, rfl⟩ := hu; rfl)
theorem wl_snoc {ws : List Wri} {i : Nat} {x : Wri} (h : ws[i]? = some x) : wl (ws.take (i + 1)) = wl (ws.take i) ++ [(x.n, x.d)] := by
  rw [take_snoc h, wl, wl, List.map_append]; rfl
/-- What put hands back: sectors of the call's own. -/
def RetPutG (W : World) (l : List (List UInt8)) (e : Ending) (W' : World) : Prop :=
  ∃ X cx, e = .returned (.slice X l.length cx) ∧ Hid (Go.CP.Own W' W.heap.size 9 1 X l.length cx (l.map svR) ∧ Below W.heap.size W W')
set_option maxHeartbeats 4000000 in
set_option maxRecDepth 100000 in
theorem gput_any (W : World) (NA : Option Addr) (now : List (List UInt8)) (nc : Nat) (hN : StrsR W NA now) (hn : 1 ≤ now.length ∧ now.length ≤ 1024) (LA : Option Addr) (ws : List Wri) (cw : Nat) (hw : Wrs W LA ws) (hd : ∀ x ∈ ws, Bytes W x.a x.d)
    (hin : ∀ x ∈ ws, 0 ≤ x.n ∧ x.n < now.length) (hl : ws.length ≤ 1000) :
    Calls Try.prog 125 #[.slice NA now.length nc, .slice LA ws.length cw] W (RetPutG W (setAll now (wl ws))) := by
  have HW := hid hw
  have HD := hid hd
  have HIN := hid hin
  have HN := hid hn
  have hli : (ws.length : Int) ≤ 1000 := by omega
  have hni : (now.length : Int) ≤ 1024 := by omega
  have HSRC := hid (fun c => Src.strsR (t := 9) (c := c) Try.underlying110 (Cells.alloc hN (.cells #[] 9)))
  clear hw hd hin hN hn
  go_enter Try.func125, Try.ntmps125
  go_wp2_with (at_builtin; refine gap_strs rfl _ _ 110 rfl W.heap.size rfl (Go.CP.Own.empty W 9 1) rfl (HSRC.out _) (by omega) (by simp) ?_; intro A1 c1 w1 ho1 hg1)
  simp only [Nat.zero_add, List.nil_append] at ho1 ⊢
  have HO1 := hid ho1
  have HB1 := hid (Below.of_grown ((World.grownBy_alloc _ _ _).trans hg1) (by simp) (by simp [blockOf]) : Below W.heap.size W w1)
  clear ho1 hg1 HSRC
  obtain ⟨gx, cur1, rfl, -⟩ := HO1.out.open (by have := HN.out.1; omega)
  go_wp2_with fail
  go_loopw [6] (fun iv' wr => ∃ i : Nat, i ≤ ws.length ∧ iv' = .int .i64 i ∧ Hid (Go.CP.Own wr W.heap.size 9 1 (some ⟨gx, 0, none⟩) now.length c1 ((setAll now (wl (ws.take i))).map svR) ∧ Below W.heap.size W wr)) (fun iv' _ => ws.length - (intOf iv').toNat)
  case atStart => exact ⟨0, by omega, rfl, hid ⟨HO1.out, HB1.out⟩⟩
  case round =>
    obtain ⟨i, hi, rfl, HI⟩ := hrel
    by_cases hlt : i < ws.length
    · have hii : (i : Int) < (ws.length : Int) := by omega
      obtain ⟨x, hx⟩ := get_of_lt ws hlt
      have HM := hid (List.mem_of_getElem? hx)
      have HX := hid (wl_snoc hx)
      obtain ⟨lb, lo, rfl, lc0, lc1⟩ := Wrs.at (Cells.below HW.out HI.out.2 (Nat.le_refl _)) hx
      have hgx := (HI.out.1.block gx rfl).1
      have hlb : lb ≠ gx := fun e => by
        obtain ⟨lb', lo', e', k0, -⟩ := Wrs.at HW.out hx
        cases e'
        have := World.block_lt_of_cell? W _ k0
        simp at this
        omega
      have hbd := Cells.below (HD.out x HM.out) HI.out.2 (Nat.le_refl _)
      have hxa : ∀ k, blockOf x.a = some k → x.d ≠ [] → k ≠ gx := fun k hk hne e => by
        obtain ⟨xb, xo, ea, hxc⟩ := Cells.open (HD.out x HM.out) (by rw [List.length_map]; exact List.length_pos_iff.2 hne)
        rw [ea] at hk
        simp [blockOf] at hk
        obtain ⟨y, hy⟩ := get_of_lt x.d (i := 0) (List.length_pos_iff.2 hne)
        have := World.block_lt_of_cell? W _ (hxc 0 (bv y) (by simp [hy]))
        simp at this
        omega
      have HS : Hid (∀ Wc, (∀ k, k ≠ gx → Wc.heap[k]? = wr.heap[k]?) → Wc.cell? ⟨lb, lo + i * 2, none⟩ = some (.int .i64 x.n) ∧ Wc.cell? ⟨lb, lo + i * 2 + 1, none⟩ = some (.slice x.a x.d.length x.c) ∧ Bytes Wc x.a x.d) := hid fun Wc hk => by
        refine ⟨(World.cell?_of_block (w := wr) (hk lb hlb)).trans lc0, (World.cell?_of_block (w := wr) (hk lb hlb)).trans lc1, ?_⟩
        by_cases hne : x.d = []
        · rw [hne]; exact Cells.nil _ _
        · refine Cells.of_cell hbd fun b off u hu hb => ?_
          rw [← hu]
          exact World.cell?_of_block (w := wr) (hk b (hxa b hb hne))
      have hcv := fun Wc (hW : Wc.cell? ⟨lb, lo + i * 2, none⟩ = some (.int .i64 x.n) ∧ Wc.cell? ⟨lb, lo + i * 2 + 1, none⟩ = some (.slice x.a x.d.length x.c) ∧ Bytes Wc x.a x.d) => cv_bytes x.c hW.2.2
      obtain ⟨k, hk⟩ := Int.eq_ofNat_of_zero_le (HIN.out x HM.out).1
      have hkn : k < now.length := by have := (HIN.out x HM.out).2; omega
      rw [hk] at HX HS hcv
      have hfr := HI.out.1.free rfl k
      obtain ⟨sm, hsm⟩ := get_of_lt (setAll now (wl (ws.take i))) (i := k) (by rw [setAll_len]; exact hkn)
      have hd1 := own_cell HI.out.1 (j := k) (v := svR sm) (by rw [List.getElem?_map, hsm]; rfl)
      have hk0 : (0 : Int) ≤ k := by omega
      have hk1 : (k : Int) < now.length := by omega
      clear hx lc0 lc1 hbd hsm hxa hk
      go_wp2_with fail
      go_region_held3 (fun Wc => Wc.cell? ⟨lb, lo + i * 2, none⟩ = some (.int .i64 k) ∧ Wc.cell? ⟨lb, lo + i * 2 + 1, none⟩ = some (.slice x.a x.d.length x.c) ∧ Bytes Wc x.a x.d)
        (first | exact HS.out _ (fun _ _ => rfl) | exact HS.out _ (fun _ hk => Below.heap_setCell _ _ _ _ hk) | assumption)
        (fail)
      go_wp2_with fail
      go_roundw
      case rel =>
        refine ⟨i + 1, by omega, by go_num, hid ⟨?_, (Below.setCell HI.out.2 hgx _).drew⟩⟩
        have h := HI.out.1.set rfl k (svR x.d)
        have e : ((setAll now (wl (ws.take i))).map svR).set k (svR x.d) = (setAll now (wl (ws.take (i + 1)))).map svR := by
          rw [HX.out, setAll_snoc, List.map_set]
          rfl
        rw [e] at h
        exact h.drew
      case measure => simp [intOf]; omega
    · have hk : i = ws.length := by omega
      have hik : ¬ (i : Int) < (ws.length : Int) := by omega
      have HF : Hid (Go.CP.Own wr W.heap.size 9 1 (some ⟨gx, 0, none⟩) (setAll now (wl ws)).length c1 ((setAll now (wl ws)).map svR)) := hid (by
        have h := HI.out.1
        rw [hk, List.take_length] at h
        rw [setAll_len]
        exact h)
      have HL := hid (setAll_len (wl ws) now)
      clear hk
      go_wp2_with fail
      go_ret
      exact ⟨some ⟨gx, 0, none⟩, c1, by rw [HL.out]; rfl, hid ⟨HF.out, HI.out.2⟩⟩
end Go.Proofs.Ytppbcdcmpcagdaa
/- The law's game of commits and restarts in memory: what a call on its drive, and a store into it, leave. -/
namespace Go.Proofs.Ytppbcdcmpcagdaa
open Go.RowKit Go.CP

theorem BlkR.free {W : World} {k : Nat} {t : TypeId} {cs : List Value} (h : BlkR W k t cs) (j : Nat) : W.frozen? ⟨k, j, none⟩ = false := by
  have h' : W.heap[k]? = _ := h
  simp [World.frozen?, h']
theorem BlkR.set {W : World} {k : Nat} {t : TypeId} {cs : List Value} (h : BlkR W k t cs) (j : Nat) (u : Value) : BlkR (W.setCell ⟨k, j, none⟩ u) k t (cs.set j u) := by
  have := heap_setCell_at W k j cs.toArray t u h
  unfold BlkR
  rw [this, List.setIfInBounds_toArray]
/-- A slice that none of a game's stores and calls reaches. -/
def HeldG (W : World) (X : Option Addr) (gb g s : Nat) (A : Option Addr) : Prop := ∀ k, blockOf X = some k → k < W.heap.size ∧ k ≠ gb ∧ k ≠ g ∧ k ≠ s ∧ blockOf A ≠ some k
theorem HeldG.far {W : World} {X : Option Addr} {gb g s : Nat} {A : Option Addr} (h : HeldG W X gb g s A) : Far X A g s := fun k hk => (h k hk).2.2
theorem HeldG.drove {W W' : World} {X : Option Addr} {gb g s : Nat} {A A' : Option Addr} (h : HeldG W X gb g s A) (hv : Drove W W' g s A A') : HeldG W' X gb g s A' := fun k hk => by
  obtain ⟨h1, h2, h3, h4, h5⟩ := h k hk
  refine ⟨Nat.lt_of_lt_of_le h1 hv.size, h2, h3, h4, fun e => ?_⟩
  rcases hv.2.2 k e with e | e
  · exact h5 e
  · omega
/-- A game in memory: its block, its drive, its sectors' texts. -/
structure GM (W : World) (base gb g s : Nat) (A : Option Addr) (c : Nat) (NA : Option Addr) (nc : Nat) (MA : Option Addr) (mc : Nat) (G : Game) : Prop where
  drv : DriveIs W g s A c G.d
  blk : BlkR W gb 175 [.pointer (some ⟨g, 0, none⟩), .slice NA G.now.length nc, .slice MA G.maybe.length mc, .bool G.off]
  now : StrsR W NA G.now
  may : StrsR W MA G.maybe
  gb1 : gb ≠ g ∧ gb ≠ s ∧ blockOf A ≠ some gb
  na : HeldG W NA gb g s A
  ma : HeldG W MA gb g s A
  base : base ≤ g ∧ base ≤ s ∧ base ≤ gb ∧ ∀ k, blockOf A = some k → base ≤ k
section
variable {W W' : World} {base gb g s : Nat} {A : Option Addr} {c : Nat} {NA : Option Addr} {nc : Nat} {MA : Option Addr} {mc : Nat} {G : Game}
theorem GM.size (h : GM W base gb g s A c NA nc MA mc G) : base ≤ W.heap.size := Nat.le_trans h.base.2.2.1 (Nat.le_of_lt h.blk.lt)
theorem GM.drove (h : GM W base gb g s A c NA nc MA mc G) {A' : Option Addr} {c' : Nat} {D' : Drv} (hd : DriveIs W' g s A' c' D') (hv : Drove W W' g s A A') : GM W' base gb g s A' c' NA nc MA mc { G with d := D' } := by
  have hlt := h.blk.lt
  have hA : ∀ k, blockOf A' = some k → blockOf A = some k ∨ W.heap.size ≤ k := hv.2.2
  refine ⟨hd, (hv.2.1 gb hlt h.gb1.1 h.gb1.2.1 h.gb1.2.2).trans h.blk, hv.cells h.now h.na.far, hv.cells h.may h.ma.far, ⟨h.gb1.1, h.gb1.2.1, fun e => ?_⟩, h.na.drove hv, h.ma.drove hv, ⟨h.base.1, h.base.2.1, h.base.2.2.1, fun k e => ?_⟩⟩
  · rcases hA gb e with e | e
    · exact h.gb1.2.2 e
    · omega
  · rcases hA k e with e | e
    · exact h.base.2.2.2 k e
    · exact Nat.le_trans h.size e
theorem GM.below (h : GM W base gb g s A c NA nc MA mc G) (hb : Below W.heap.size W W') : GM W' base gb g s A c NA nc MA mc G := h.drove (h.drv.below hb (Nat.le_refl _)) (Drove.of_below hb)
theorem GM.frame (h : GM W base gb g s A c NA nc MA mc G) {A' : Option Addr} (hv : Drove W W' g s A A') : Below base W W' := hv.below h.size h.base.1 h.base.2.1 h.base.2.2.2
theorem DriveIs.otherCell {D : Drv} (h : DriveIs W g s A c D) (hg : gb ≠ g) (hs : gb ≠ s) (hA : blockOf A ≠ some gb) (j : Nat) (u : Value) : DriveIs (W.setCell ⟨gb, j, none⟩ u) g s A c D :=
  h.of_blocks (Below.heap_setCell _ _ _ _ hg.symm) (Below.heap_setCell _ _ _ _ hs.symm) fun k hk => Below.heap_setCell _ _ _ _ fun e => hA (by rw [hk, e])
theorem StrsR.otherCell {X : Option Addr} {l : List (List UInt8)} (h : StrsR W X l) (hX : blockOf X ≠ some gb) (j : Nat) (u : Value) : StrsR (W.setCell ⟨gb, j, none⟩ u) X l := by
  refine Cells.of_cell h fun b off v hv hb => ?_
  rw [← hv]
  exact World.cell?_of_block (w := W) (Below.heap_setCell _ _ _ _ fun e => hX ((show blockOf X = some b from hb).trans (congrArg some (show b = gb from e))))
theorem HeldG.setCell {X : Option Addr} (h : HeldG W X gb g s A) (p : Addr) (u : Value) : HeldG (W.setCell p u) X gb g s A := fun k hk => by
  obtain ⟨h1, h2⟩ := h k hk
  exact ⟨by simpa using h1, h2⟩
theorem HeldG.ne {X : Option Addr} (h : HeldG W X gb g s A) : blockOf X ≠ some gb := fun e => (h gb e).2.1 rfl
theorem GM.setNow (h : GM W base gb g s A c NA nc MA mc G) {NB : Option Addr} {l : List (List UInt8)} (nb : Nat) (hl : StrsR W NB l) (hh : HeldG W NB gb g s A) : GM (W.setCell ⟨gb, 1, none⟩ (.slice NB l.length nb)) base gb g s A c NB nb MA mc { G with now := l } :=
  ⟨h.drv.otherCell h.gb1.1 h.gb1.2.1 h.gb1.2.2 _ _, h.blk.set 1 _, hl.otherCell hh.ne _ _, h.may.otherCell h.ma.ne _ _, h.gb1, hh.setCell _ _, h.ma.setCell _ _, h.base⟩
theorem GM.setMay (h : GM W base gb g s A c NA nc MA mc G) {NB : Option Addr} {l : List (List UInt8)} (nb : Nat) (hl : StrsR W NB l) (hh : HeldG W NB gb g s A) : GM (W.setCell ⟨gb, 2, none⟩ (.slice NB l.length nb)) base gb g s A c NA nc NB nb { G with maybe := l } :=
  ⟨h.drv.otherCell h.gb1.1 h.gb1.2.1 h.gb1.2.2 _ _, h.blk.set 2 _, h.now.otherCell h.na.ne _ _, hl.otherCell hh.ne _ _, h.gb1, h.na.setCell _ _, hh.setCell _ _, h.base⟩
theorem GM.setOff (h : GM W base gb g s A c NA nc MA mc G) (b : Bool) : GM (W.setCell ⟨gb, 3, none⟩ (.bool b)) base gb g s A c NA nc MA mc { G with off := b } :=
  ⟨h.drv.otherCell h.gb1.1 h.gb1.2.1 h.gb1.2.2 _ _, h.blk.set 3 _, h.now.otherCell h.na.ne _ _, h.may.otherCell h.ma.ne _ _, h.gb1, h.na.setCell _ _, h.ma.setCell _ _, h.base⟩
theorem GM.cells (h : GM W base gb g s A c NA nc MA mc G) : W.cell? ⟨gb, 0, none⟩ = some (.pointer (some ⟨g, 0, none⟩)) ∧ W.cell? ⟨gb, 1, none⟩ = some (.slice NA G.now.length nc) ∧ W.cell? ⟨gb, 2, none⟩ = some (.slice MA G.maybe.length mc) ∧ W.cell? ⟨gb, 3, none⟩ = some (.bool G.off) :=
  ⟨h.blk.cell (j := 0) rfl, h.blk.cell (j := 1) rfl, h.blk.cell (j := 2) rfl, h.blk.cell (j := 3) rfl⟩
/-- The calls on a game's drive. -/
theorem GM.restart (h : GM W base gb g s A c NA nc MA mc G) (hn : G.d.list.length ≤ 1000000000000) (K : Option Addr) (keep : List Int) (ck : Nat) (hk : Ints W K keep) (hkf : 0 < keep.length → ∀ k, blockOf K = some k → k < base) (hkl : keep.length ≤ 140737488351232) :
    Calls Try.prog 102 #[.pointer (some ⟨g, 0, none⟩), .slice K keep.length ck] W fun e W' => e = .returned (.tuple #[]) ∧ Hid (GM W' base gb g s none 0 NA nc MA mc { G with d := G.d.restart keep } ∧ Drove W W' g s A none) := by
  refine (drv_restart W g s A c G.d h.drv hn K keep ck hk (fun h0 k hk => ?_) hkl).mono ?_
  · have := hkf h0 k hk
    have hb := h.base
    exact ⟨by omega, by omega, fun e => by have := hb.2.2.2 k e; omega⟩
  · rintro e W' ⟨h1, h2, h3⟩
    exact ⟨h1, hid ⟨h.drove h2 h3, h3⟩⟩
theorem GM.fuse (h : GM W base gb g s A c NA nc MA mc G) (k : Int) :
    Calls Try.prog 104 #[.pointer (some ⟨g, 0, none⟩), .int .i64 k] W fun e W' => e = .returned (.tuple #[]) ∧ Hid (GM W' base gb g s A c NA nc MA mc { G with d := G.d.fuseTo k } ∧ Drove W W' g s A A) :=
  (fuse_drive W g s A c G.d k h.drv).mono fun _ _ ⟨h1, h2, h3⟩ => ⟨h1, hid ⟨h.drove h2 h3, h3⟩⟩
theorem GM.recover (h : GM W base gb g s A c NA nc MA mc G) (hf : Fit G.d 5000) {x : Int} {D' : Drv} (hr : G.d.recover = (x, D')) :
    Calls Try.prog 124 #[.pointer (some ⟨g, 0, none⟩)] W fun e W' => e = .returned (.int .i64 x) ∧ ∃ A' c', Hid (GM W' base gb g s A' c' NA nc MA mc { G with d := D' } ∧ Drove W W' g s A A') := by
  refine (recover_any W g s A c G.d h.drv hf).mono ?_
  rw [hr]
  rintro e W' ⟨h1, A', c', h2, h3⟩
  exact ⟨h1, A', c', hid ⟨h.drove h2 h3, h3⟩⟩
theorem GM.same (h : GM W base gb g s A c NA nc MA mc G) (hf : Fit G.d 1000000) (QA : Option Addr) (want : List (List UInt8)) (qc : Nat) (hq : StrsR W QA want) (hl : want.length ≤ 1024) :
    Calls Try.prog 176 #[.pointer (some ⟨gb, 0, none⟩), .slice QA want.length qc] W fun e W' => e = .returned (.bool (sameB G.d want)) ∧ Hid (GM W' base gb g s A c NA nc MA mc G ∧ Below W.heap.size W W') :=
  (same_any W gb g s A c G.d _ _ _ h.blk h.drv hf QA want qc hq hl).mono fun _ _ ⟨h1, h2⟩ => ⟨h1, hid ⟨h.below h2, h2⟩⟩
end
end Go.Proofs.Ytppbcdcmpcagdaa
/- The law's game of commits and restarts: contract of its again. -/
namespace Go.Proofs.Ytppbcdcmpcagdaa
open Go.RowKit Go.CP

/-- What again hands back: the game goes on. -/
def RetAgain (W : World) (base gb g s n : Nat) (e : Ending) (W' : World) : Prop :=
  e = .returned (.bool true) ∧ ∃ A c NA nc MA mc G, GM W' base gb g s A c NA nc MA mc G ∧ G.Ok n ∧ G.off = false ∧ Below base W W'
section
variable {W W' : World} {base gb g s : Nat} {A : Option Addr} {c : Nat} {NA : Option Addr} {nc : Nat} {MA : Option Addr} {mc : Nat} {G : Game}
/-- A cell of a block that is none of the drive's. -/
theorem Drove.cellAt {A' : Option Addr} (hv : Drove W W' g s A A') {k : Nat} (h1 : k ≠ g) (h2 : k ≠ s) (h3 : blockOf A ≠ some k) {j : Nat} {v : Value} (hc : W.cell? ⟨k, j, none⟩ = some v) : W'.cell? ⟨k, j, none⟩ = some v :=
  (World.cell?_of_block (w := W) (hv.2.1 k (World.block_lt_of_cell? W _ hc) h1 h2 h3)).trans hc
theorem Drove.apart {A' : Option Addr} (hv : Drove W W' g s A A') {k : Nat} (hk : k < W.heap.size) (hA : blockOf A ≠ some k) : blockOf A' ≠ some k := fun e => by
  rcases hv.2.2 k e with e | e
  · exact hA e
  · omega
/-- The step's two numbers that are read, in its box. -/
structure BoxS (kb g s : Nat) (N : Int) (K : Value) (W : World) (A : Option Addr) : Prop where
  c1 : W.cell? ⟨kb, 1, none⟩ = some (.int .i64 N)
  c3 : W.cell? ⟨kb, 3, none⟩ = some K
  ng : kb ≠ g
  ns : kb ≠ s
  na : blockOf A ≠ some kb
theorem BoxS.drove {kb : Nat} {N : Int} {K : Value} {A' : Option Addr} (h : BoxS kb g s N K W A) (hv : Drove W W' g s A A') : BoxS kb g s N K W' A' :=
  ⟨hv.cellAt h.ng h.ns h.na h.c1, hv.cellAt h.ng h.ns h.na h.c3, h.ng, h.ns, hv.apart (World.block_lt_of_cell? W _ h.c1) h.na⟩
end
set_option maxHeartbeats 8000000 in
set_option maxRecDepth 100000 in
theorem again_any (W : World) (base gb g s : Nat) (A : Option Addr) (c : Nat) (NA : Option Addr) (nc : Nat) (MA : Option Addr) (mc : Nat) (G : Game) (n : Nat) (h : GM W base gb g s A c NA nc MA mc G) (hok : G.Ok n)
    (what N : Int) (LA : Option Addr) (ln lc : Nat) (KA : Option Addr) (keep : List Int) (ck : Nat) (hk : Ints W KA keep) (hkb : 0 < keep.length → ∀ k, blockOf KA = some k → k < base) (hkl : keep.length ≤ 140737488351232) (hN : -9223372036854775808 ≤ N ∧ N < 9223372036854775808) :
    Calls Try.prog 126 #[.pointer (some ⟨gb, 0, none⟩), .agg #[.int .i64 what, .int .i64 N, .slice LA ln lc, .slice KA keep.length ck]] W (RetAgain W base gb g s n) := by
  have HBW := hid ((Below.refl W.heap.size W).alloc (Nat.le_refl _) (.cells #[.int .i64 what, .int .i64 N, .slice LA ln lc, .slice KA keep.length ck] 176))
  obtain ⟨W1, hW1⟩ : ∃ W1, W1 = W.alloc (.cells #[.int .i64 what, .int .i64 N, .slice LA ln lc, .slice KA keep.length ck] 176) := ⟨_, rfl⟩
  have HX1 : Hid (BlkR W1 W.heap.size 176 [.int .i64 what, .int .i64 N, .slice LA ln lc, .slice KA keep.length ck]) := hid (by rw [hW1]; exact BlkR.new W 176 _)
  have HG1 : Hid (GM W1 base gb g s A c NA nc MA mc G) := hid (by rw [hW1]; exact h.below HBW.out)
  have HB1 : Hid (Below base W W1) := hid (by rw [hW1]; exact HBW.out.mono h.size)
  have HK : Hid (∀ Wc, Below base W Wc → Ints Wc KA keep) := hid fun Wc hb => by
    by_cases h0 : keep = []
    · rw [h0]; exact Cells.nil _ _
    · refine Cells.of_cell hk fun b off u hu hbk => ?_
      rw [← hu]
      exact World.cell?_of_block (w := W) (hb.block b (hkb (List.length_pos_iff.2 h0) b hbk))
  have HKB := hid hkb
  have hlt := h.drv.lt
  have HNE : Hid (W.heap.size ≠ g ∧ W.heap.size ≠ s ∧ blockOf A ≠ some W.heap.size ∧ gb ≠ W.heap.size) := hid ⟨by omega, by omega, fun e => by have := hlt.2.2 _ e; omega, by have := h.blk.lt; omega⟩
  have HOK := hid hok
  have hW1' : W.alloc (.cells #[.int .i64 what, .int .i64 N, .slice LA ln lc, .slice KA keep.length ck] 176) = W1 := hW1.symm
  have HW1 := hid hW1'
  have HRS := hid (hok.loose.restart keep)
  have hfl : G.d.list.length ≤ 1000000000000 := Nat.le_trans hok.fit.list (by decide)
  clear hk hkb h hok hW1 hW1' hlt HBW
  go_enter Try.func126, Try.ntmps126
  go_upto_region 1 with fail
  rw [HW1.out]
  obtain ⟨kb, hkb⟩ : ∃ kb, W.heap.size = kb := ⟨_, rfl⟩
  rw [hkb] at HX1 HNE ⊢
  clear HW1 hkb
  have gc0 := HG1.out.cells.1
  have bc3 : W1.cell? ⟨kb, 3, none⟩ = some (.slice KA keep.length ck) := HX1.out.cell (j := 3) rfl
  go_region_held3 (fun Wc => Wc.cell? ⟨gb, 0, none⟩ = some (.pointer (some ⟨g, 0, none⟩)) ∧ Wc.cell? ⟨kb, 3, none⟩ = some (.slice KA keep.length ck))
    (first | exact ⟨gc0, bc3⟩ | exact hc2 | assumption)
    (first
      | (go_at_call 102; refine ((HG1.out.below (by first | exact Below.refl _ _ | exact Below.drew (Below.refl _ _))).restart hfl KA keep ck (HK.out _ (HB1.out.drew)) HKB.out hkl).mono ?_; rintro e w2 ⟨rfl, HR2⟩; have hc2 : w2.cell? ⟨gb, 0, none⟩ = some (.pointer (some ⟨g, 0, none⟩)) ∧ w2.cell? ⟨kb, 3, none⟩ = some (.slice KA keep.length ck) := ⟨HR2.out.1.cells.1, HR2.out.2.cellAt HNE.out.1 HNE.out.2.1 HNE.out.2.2.1 bc3⟩)
      | fail "arm")
  have HG2 := hid HR2.out.1
  have HS2 : Hid (BoxS kb g s N (.slice KA keep.length ck) w2 none) := hid (BoxS.drove ⟨HX1.out.cell (j := 1) rfl, HX1.out.cell (j := 3) rfl, HNE.out.1, HNE.out.2.1, HNE.out.2.2.1⟩ ((Drove.of_below (by first | exact Below.refl _ _ | exact Below.drew (Below.refl _ _))).trans HR2.out.2))
  have HB2 : Hid (Below base W w2) := hid (HB1.out.trans (HG1.out.frame ((Drove.of_below (by first | exact Below.refl _ _ | exact Below.drew (Below.refl _ _))).trans HR2.out.2)))
  clear HR2 hc2 gc0 bc3 HX1 HG1 HB1 HNE HOK hfl
  obtain ⟨G2, hG2⟩ : ∃ G2 : Game, ({ G with d := G.d.restart keep } : Game) = G2 := ⟨_, rfl⟩
  have HF2 : Hid (G2.d.fuse = -1) := hid (by rw [← hG2]; rfl)
  rw [hG2] at HG2 HRS
  clear hG2
  have gc0 := HG2.out.cells.1
  have bc1 := HS2.out.c1
  have bc3 := HS2.out.c3
  by_cases hN0 : 0 < N
  case' pos =>
    go_wp2_with fail
    go_region_held3 (fun Wc => Wc.cell? ⟨gb, 0, none⟩ = some (.pointer (some ⟨g, 0, none⟩)) ∧ Wc.cell? ⟨kb, 1, none⟩ = some (.int .i64 N))
      (first | exact ⟨gc0, bc1⟩ | exact hc3 | assumption)
      (first
        | (go_at_call 104; refine ((HG2.out.below (by first | exact Below.refl _ _ | exact Below.drew (Below.refl _ _))).fuse _).mono ?_; rintro e w3 ⟨rfl, HR3⟩; have hc3 : w3.cell? ⟨gb, 0, none⟩ = some (.pointer (some ⟨g, 0, none⟩)) ∧ w3.cell? ⟨kb, 1, none⟩ = some (.int .i64 N) := ⟨HR3.out.1.cells.1, HR3.out.2.cellAt HS2.out.ng HS2.out.ns HS2.out.na bc1⟩)
        | fail "arm")
    have HG3 := hid HR3.out.1
    have HS3 := hid (HS2.out.drove ((Drove.of_below (Below.drew (Below.refl _ _))).trans HR3.out.2))
    have HB3 := hid (HB2.out.trans (HG2.out.frame ((Drove.of_below (Below.drew (Below.refl _ _))).trans HR3.out.2)))
    have HU3 := hid (HRS.out.fuse (k := N.tmod 60) (by rw [Int.tmod_eq_emod_of_nonneg (by omega)]; omega))
    clear HR3 hc3 gc0 bc1 bc3 HG2 HS2 HB2 HRS HF2
    obtain ⟨G3, hG3⟩ : ∃ G3 : Game, ({ G2 with d := G2.d.fuseTo (N.tmod 60) } : Game) = G3 := ⟨_, rfl⟩
    rw [hG3] at HG3 HU3
    clear hG3
    obtain ⟨x, D4, hr⟩ : ∃ x D4, G3.d.recover = (x, D4) := ⟨_, _, rfl⟩
    obtain ⟨hx, hL4, -⟩ := HU3.out.recover hr
    have HL4 := hid hL4
    have HC4 := hid (HG3.out.recover (HU3.out.fit.mono (by decide)) hr)
    have gc0 := HG3.out.cells.1
    clear hr hL4
    go_wp2_with fail
    refine HC4.out.mono ?_
    clear HC4 gc0
    rintro e w4 ⟨rfl, A4, c4, HR4⟩
    have HG4 := hid HR4.out.1
    have HS4 := hid (HS3.out.drove HR4.out.2)
    have HB4 := hid (HB3.out.trans (HG3.out.frame HR4.out.2))
    clear HR4 HG3 HS3 HB3 HU3
    obtain ⟨G4, hG4⟩ : ∃ G4 : Game, ({ G3 with d := D4 } : Game) = G4 := ⟨_, rfl⟩
    rw [hG4] at HG4 HL4
    clear hG4
    have gc0 := HG4.out.cells.1
    have bc3 := HS4.out.c3
    have HRS := hid (HL4.out.restart keep)
    have hfl : G4.d.list.length ≤ 1000000000000 := Nat.le_trans HL4.out.fit.list (by decide)
    rcases hx with rfl | rfl
    case' inl =>
      go_wp2_with fail
      go_region_held3 (fun Wc => Wc.cell? ⟨gb, 0, none⟩ = some (.pointer (some ⟨g, 0, none⟩)) ∧ Wc.cell? ⟨kb, 3, none⟩ = some (.slice KA keep.length ck))
        (first | exact ⟨gc0, bc3⟩ | exact hc5 | assumption)
        (first
          | (go_at_call 102; refine ((HG4.out.below (by first | exact Below.refl _ _ | exact Below.drew (Below.refl _ _))).restart hfl KA keep ck (HK.out _ (HB4.out.drew)) HKB.out hkl).mono ?_; rintro e w5 ⟨rfl, HR5⟩; have hc5 : w5.cell? ⟨gb, 0, none⟩ = some (.pointer (some ⟨g, 0, none⟩)) ∧ w5.cell? ⟨kb, 3, none⟩ = some (.slice KA keep.length ck) := ⟨HR5.out.1.cells.1, HR5.out.2.cellAt HS4.out.ng HS4.out.ns HS4.out.na bc3⟩)
          | fail "arm")
    case' inr =>
      go_wp2_with fail
      go_region_held3 (fun Wc => Wc.cell? ⟨gb, 0, none⟩ = some (.pointer (some ⟨g, 0, none⟩)) ∧ Wc.cell? ⟨kb, 3, none⟩ = some (.slice KA keep.length ck))
        (first | exact ⟨gc0, bc3⟩ | exact hc5 | assumption)
        (first
          | (go_at_call 102; refine ((HG4.out.below (by first | exact Below.refl _ _ | exact Below.drew (Below.refl _ _))).restart hfl KA keep ck (HK.out _ (HB4.out.drew)) HKB.out hkl).mono ?_; rintro e w5 ⟨rfl, HR5⟩; have hc5 : w5.cell? ⟨gb, 0, none⟩ = some (.pointer (some ⟨g, 0, none⟩)) ∧ w5.cell? ⟨kb, 3, none⟩ = some (.slice KA keep.length ck) := ⟨HR5.out.1.cells.1, HR5.out.2.cellAt HS4.out.ng HS4.out.ns HS4.out.na bc3⟩)
          | fail "arm")
    all_goals
      have HGQ := hid HR5.out.1
      have HBQ := hid (HB4.out.trans (HG4.out.frame ((Drove.of_below (Below.drew (Below.refl _ _))).trans HR5.out.2)))
      clear HR5 hc5 gc0 bc3 HG4 HS4 HB4 HL4 hfl
      obtain ⟨GQ, hGQ⟩ : ∃ GQ : Game, ({ G4 with d := G4.d.restart keep } : Game) = GQ := ⟨_, rfl⟩
      have HFQ : Hid (GQ.d.fuse = -1) := hid (by rw [← hGQ]; rfl)
      rw [hGQ] at HGQ HRS
      clear hGQ
      go_wp2_with fail
  case' neg =>
    have HGQ := HG2
    have HBQ := HB2
    have HFQ := HF2
    obtain ⟨GQ, hGQ⟩ : ∃ GQ, GQ = G2 := ⟨_, rfl⟩
    rw [← hGQ] at HGQ HRS HFQ
    clear bc3 HG2 HS2 HB2 HF2 hGQ
    go_wp2_with fail
    clear gc0 bc1
  all_goals
    obtain ⟨x, D6, hr⟩ : ∃ x D6, GQ.d.recover = (x, D6) := ⟨_, _, rfl⟩
    obtain ⟨hx0, hsm, hok6⟩ := HRS.out.done hr HFQ.out
    subst hx0
    have HSM := hid hsm
    have HOK6 := hid hok6
    have HC6 := hid (HGQ.out.recover (HRS.out.fit.mono (by decide)) hr)
    have HNL : Hid (GQ.now.length ≤ 1024 ∧ (GQ.off = true → GQ.maybe.length ≤ 1024)) := hid (by
      have hb := HRS.out.big
      have hn := HRS.out.now
      refine ⟨by omega, fun ho => ?_⟩
      obtain ⟨ws, h1, -⟩ := HRS.out.past ho
      rw [h1, setAll_len]
      omega)
    clear hr hsm hok6 HRS HFQ HK HKB
    refine HC6.out.mono ?_
    clear HC6
    rintro e w6 ⟨rfl, A6, c6, HR6⟩
    have HG6 := hid HR6.out.1
    have HB6 := hid (HBQ.out.trans (HGQ.out.frame HR6.out.2))
    clear HR6 HGQ HBQ
    have gc := HG6.out.cells
    dsimp only at gc
    obtain ⟨g0, g1, g2, g3⟩ := gc
    have f1 := HG6.out.blk.free 1
    have f3 := HG6.out.blk.free 3
    have HF6 : Hid (Fit D6 1000000) := hid (HOK6.out.fit.mono (by decide))
    have hbg : base ≤ gb := HG6.out.base.2.2.1
    cases ho : GQ.off with
    | false =>
      have hnx : GQ.next D6 = GQ.now := by rw [Game.next, if_neg (by simp [ho])]
      rw [hnx] at HSM HOK6
      rw [ho] at g3
      have HG7 := hid (HG6.out.setOff false)
      have HB7 := hid (HB6.out.setCell (p := ⟨gb, 3, none⟩) hbg (.bool false))
      have HC7 := hid (HG7.out.same HF6.out NA GQ.now nc HG7.out.now HNL.out.1)
      dsimp only at HC7
      rw [HSM.out] at HC7
      clear ho hnx HG6 HB6 HSM hbg
      go_wp2_with fail
      refine HC7.out.mono ?_
      clear HC7
      rintro e w8 ⟨rfl, HR8⟩
      have HG8 := hid HR8.out.1
      have HB8 := hid (HB7.out.trans (HR8.out.2.mono HG7.out.size))
      clear HR8 HG7 HB7 g0 g1 g2 g3 f1 f3
      go_wp2_with fail
      go_ret
      exact ⟨rfl, _, _, _, _, _, _, _, HG8.out, HOK6.out, rfl, HB8.out⟩
    | true =>
      rw [ho] at g3
      have HC7 := hid (HG6.out.same HF6.out MA GQ.maybe mc HG6.out.may (HNL.out.2 ho))
      dsimp only at HC7
      obtain ⟨q, hq⟩ : ∃ q, sameB D6 GQ.maybe = q := ⟨_, rfl⟩
      rw [hq] at HC7
      have HQ := hid hq
      have HO := hid ho
      clear hq ho
      go_wp2_with fail
      refine HC7.out.mono ?_
      clear HC7
      rintro e w7 ⟨rfl, HR7⟩
      have HG7 := hid HR7.out.1
      have HB7 := hid (HB6.out.trans (HR7.out.2.mono HG6.out.size))
      clear HR7 HG6 HB6 g0 g1 g2 g3 f1 f3
      have gc := HG7.out.cells
      dsimp only at gc
      obtain ⟨g0, g1, g2, g3⟩ := gc
      have f1 := HG7.out.blk.free 1
      have f3 := HG7.out.blk.free 3
      cases q with
      | true =>
        have hnx : GQ.next D6 = GQ.maybe := by rw [Game.next, if_pos ⟨HO.out, HQ.out⟩]
        rw [hnx] at HSM HOK6
        have HG8 := hid ((HG7.out.setNow mc HG7.out.may HG7.out.ma).setOff false)
        have HB8 := hid ((HB7.out.setCell (p := ⟨gb, 1, none⟩) hbg (.slice MA GQ.maybe.length mc)).setCell (p := ⟨gb, 3, none⟩) hbg (.bool false))
        have HC8 := hid (HG8.out.same HF6.out MA GQ.maybe mc HG8.out.now (HNL.out.2 HO.out))
        dsimp only at HC8
        rw [HSM.out] at HC8
        clear hnx HG7 HB7 HSM hbg
        go_wp2_with fail
        refine HC8.out.mono ?_
        clear HC8
        rintro e w9 ⟨rfl, HR9⟩
        have HG9 := hid HR9.out.1
        have HB9 := hid (HB8.out.trans (HR9.out.2.mono HG8.out.size))
        clear HR9 HG8 HB8 g0 g1 g2 g3 f1 f3
        go_wp2_with fail
        go_ret
        exact ⟨rfl, _, _, _, _, _, _, _, HG9.out, HOK6.out, rfl, HB9.out⟩
      | false =>
        have hnx : GQ.next D6 = GQ.now := by rw [Game.next, if_neg (by rw [HQ.out]; simp)]
        rw [hnx] at HSM HOK6
        have HG8 := hid (HG7.out.setOff false)
        have HB8 := hid (HB7.out.setCell (p := ⟨gb, 3, none⟩) hbg (.bool false))
        have HC8 := hid (HG8.out.same HF6.out NA GQ.now nc HG8.out.now HNL.out.1)
        dsimp only at HC8
        rw [HSM.out] at HC8
        clear hnx HG7 HB7 HSM hbg
        go_wp2_with fail
        refine HC8.out.mono ?_
        clear HC8
        rintro e w9 ⟨rfl, HR9⟩
        have HG9 := hid HR9.out.1
        have HB9 := hid (HB8.out.trans (HR9.out.2.mono HG8.out.size))
        clear HR9 HG8 HB8 g0 g1 g2 g3 f1 f3
        go_wp2_with fail
        go_ret
        exact ⟨rfl, _, _, _, _, _, _, _, HG9.out, HOK6.out, rfl, HB9.out⟩
end Go.Proofs.Ytppbcdcmpcagdaa
/- The law's game of commits and restarts: its beginning. -/
namespace Go.Proofs.Ytppbcdcmpcagdaa
open Go.RowKit Go.CP

def zG : List UInt8 := List.replicate 128 0
theorem zG_len : zG.length = 128 := by simp [zG]
/-- A new row, at a step of a region that draws its order. -/
theorem gst_zeros {w : World} {ops : Array Oper} {o : Oper} {a : Act} {K : Act → World → Prop} {Q : Exit → Act → World → Prop} {E : Prop} (hgd : o.guard = none)
    (ho : o.op = .makeSlice 22 (.const (.int .i64 128)) (.const (.int .i64 128)))
    (h : ∀ w', Bytes w' (some ⟨w.heap.size, 0, none⟩) zG → Below w.heap.size w w' → w'.heap.size = w.heap.size + 1 → K (a.put o.dst (.slice (some ⟨w.heap.size, 0, none⟩) 128 128)) w') :
    if Region.wanted o (yielded ops a.tmps) = true then Oper.wp Try.prog o a w K Q else E := by
  have hw : Region.wanted o (yielded ops a.tmps) = true := by simp [Region.wanted, hgd]
  rw [if_pos hw]
  have hr := run_make (P := Try.prog) w 22 5 Try.t5 (.int .u8 0) Try.underlying22 info5 (by kernel_rfl) .i64 .i64 128 128 (by omega) (Int.le_refl _) (by rw [show Try.t5.bytes = 1 from by kernel_rfl]; omega) (by omega)
  have hs : Try.t5.size = 1 := by kernel_rfl
  unfold Oper.wp execOp
  simp only [ho, Act.eval, Sem.run_bind]
  rw [hr]
  simp only [Result.andThen_ok, Sem.run_pure]
  have hc : madeCells (Value.int .u8 0).cells ((128 : Int).toNat * Try.t5.size) = (zG.map bv).toArray := by
    rw [hs]
    apply Array.toList_inj.1
    rw [show (Value.int IntKind.u8 0).cells = #[Value.int .u8 0] from rfl, madeCells_one, zG, List.map_replicate]
    rfl
  rw [hc]
  refine h _ ?_ ((Below.refl _ _).alloc (Nat.le_refl _) _) (World.size_alloc _ _)
  have := Go.CP.Own.made w 5 1 128 (zG.map bv).toArray (by simp [zG_len]) (by decide)
  have h2 := this.cells
  simpa using h2
theorem gst_strs {w : World} {ops : Array Oper} {o : Oper} {a : Act} {K : Act → World → Prop} {Q : Exit → Act → World → Prop} {E : Prop} (hgd : o.guard = none) (s x : Operand) (tx : TypeId)
    (ho : o.op = .call { callee := .builtin .append, args := #[s, x], argTypes := #[110, tx] }) (base : Nat)
    {A : Option Addr} {n c : Nat} {xs : List Value} (hs : a.eval s = .slice A n c) (hown : Go.CP.Own w base 9 1 A n c xs)
    {vx : Value} {m : Nat} {news : List Value} (hvx : a.eval x = vx) (hx : Src Try.prog w 1 (.string ByteArray.empty) tx vx m news)
    (hbytes : (n + m) * 16 ≤ 225000000000000) (hbase : base ≤ w.heap.size)
    (h : ∀ A' c' w', Go.CP.Own w' base 9 1 A' (n + m) c' (xs ++ news) → w.grownBy w' (blockOf A) → (blockOf A' = blockOf A ∨ ∀ k, blockOf A' = some k → w.heap.size ≤ k) → K (a.put o.dst (.slice A' (n + m) c')) w') :
    if Region.wanted o (yielded ops a.tmps) = true then Oper.wp Try.prog o a w K Q else E := by
  have hw : Region.wanted o (yielded ops a.tmps) = true := by simp [Region.wanted, hgd]
  rw [if_pos hw]
  exact wp_append_Own' w s x 110 tx ho base 9 Try.t9 (.string ByteArray.empty) 1 16 Try.underlying110 ginfo9 (by kernel_rfl) (by kernel_rfl) (by kernel_rfl) rfl (by decide) (by decide) (by decide) A n c xs hs hown vx m news hvx hx hbytes hbase h
/-- A game whose sectors' texts are being laid: i are there. -/
structure Fill (w : World) (K gb g s : Nat) (A : Option Addr) (c : Nat) (D : Drv) (i : Nat) (NA : Option Addr) (nc : Nat) (W : World) : Prop where
  own : Go.CP.Own W K 9 1 NA i nc ((List.replicate i zG).map svR)
  drv : DriveIs W g s A c D
  blk : BlkR W gb 175 [.pointer (some ⟨g, 0, none⟩), .slice NA i nc, .slice none 0 0, .bool false]
  below : Below w.heap.size w W
  lts : gb < K ∧ g < K ∧ s < K ∧ (∀ k, blockOf A = some k → k < K) ∧ K ≤ W.heap.size
  ges : w.heap.size ≤ gb ∧ w.heap.size ≤ g ∧ w.heap.size ≤ s ∧ ∀ k, blockOf A = some k → w.heap.size ≤ k
  ne : gb ≠ g ∧ gb ≠ s ∧ blockOf A ≠ some gb
theorem Fill.step {w W W3 W4 : World} {K gb g s : Nat} {A : Option Addr} {c : Nat} {D : Drv} {i : Nat} {NA A' : Option Addr} {nc c' : Nat} (h : Fill w K gb g s A c D i NA nc W) (hb : Below W.heap.size W W3) (hg : W3.grownBy W4 (blockOf NA)) (ho : Go.CP.Own W4 K 9 1 A' (i + 1) c' ((List.replicate i zG).map svR ++ [svR zG])) :
    (W4.cell? ⟨gb, 1, none⟩ = some (.slice NA i nc) ∧ W4.frozen? ⟨gb, 1, none⟩ = false) ∧ Fill w K gb g s A c D (i + 1) A' c' (W4.setCell ⟨gb, 1, none⟩ (.slice A' (i + 1) c')) := by
  have hN : ∀ k, blockOf NA = some k → K ≤ k := fun k hk => (h.own.block k hk).1
  have hsz := hb.size
  have hk : ∀ k, k < K → W4.heap[k]? = W.heap[k]? := fun k hk => by
    have hlt : k < W3.heap.size := by have := h.lts.2.2.2.2; omega
    exact (hg.block k hlt (fun e => by have := hN k e.symm; omega)).trans (hb.block k (by have := h.lts.2.2.2.2; omega))
  have b4 : BlkR W4 gb 175 [.pointer (some ⟨g, 0, none⟩), .slice NA i nc, .slice none 0 0, .bool false] := (hk gb h.lts.1).trans h.blk
  have d4 : DriveIs W4 g s A c D := h.drv.of_blocks (hk g h.lts.2.1) (hk s h.lts.2.2.1) fun k e => hk k (h.lts.2.2.2.1 k e)
  have bl : Below w.heap.size w W4 := Below.grown (h.below.trans (hb.mono h.below.size)) hg (by have := h.below.size; omega) (fun k e => by have := hN k e; have := h.ges.1; have := h.lts.1; omega)
  refine ⟨⟨b4.cell (j := 1) rfl, b4.free 1⟩, ?_, d4.otherCell h.ne.1 h.ne.2.1 h.ne.2.2 _ _, b4.set 1 _, bl.setCell (p := ⟨gb, 1, none⟩) h.ges.1 _, ⟨h.lts.1, h.lts.2.1, h.lts.2.2.1, h.lts.2.2.2.1, by have := hg.size; have := h.lts.2.2.2.2; simp; omega⟩, h.ges, h.ne⟩
  refine own_of_block (w := W4) ?_ fun k hk => Below.heap_setCell _ _ _ _ fun e => by have := (ho.block k hk).1; have := h.lts.1; have e' : k = gb := e; omega
  rw [List.replicate_succ', List.map_append]
  exact ho
theorem Fill.drew {w W : World} {K gb g s : Nat} {A : Option Addr} {c : Nat} {D : Drv} {i : Nat} {NA : Option Addr} {nc : Nat} (h : Fill w K gb g s A c D i NA nc W) : Fill w K gb g s A c D i NA nc W.drew :=
  ⟨h.own.drew, h.drv.drew, h.blk.below (Below.drew (Below.refl _ _)), h.below.drew, h.lts, h.ges, h.ne⟩
/-- The beginning of a game. -/
theorem game_ok {n : Nat} (h1 : 64 ≤ n) (h2 : n ≤ 1024) : Game.Ok ⟨logD n, (List.replicate n zG).set 1 (headL []), [], false⟩ n := by
  have hC := logD_calm h1 h2
  have hs : (logD n).sure = (List.replicate n zG).set 1 (headL []) := rfl
  refine ⟨⟨h1, h2⟩, by simp, hC.fit 100, logD_len n, fun _ => ⟨hC.dead, hC.list, by rw [hs], hC.head, fun i _ _ => by rw [hs]⟩, fun k => by cases k⟩
theorem logD_get {n : Nat} (h1 : 64 ≤ n) (h2 : n ≤ 1024) : (logD n).get (1 : Nat) = (0, headL []) := by
  have hC := logD_calm h1 h2
  rw [get_rest hC.dead hC.list (by have := hC.len; omega), hC.head]
/-- All sectors' texts are laid, and the log's head. -/
theorem Fill.game {w W : World} {K gb g s : Nat} {A : Option Addr} {c : Nat} {D : Drv} {n q : Nat} {nc : Nat} (h : Fill w K gb g s A c D n (some ⟨q, 0, none⟩) nc W) (x : List UInt8) :
    GM (W.setCell ⟨q, 1, none⟩ (svR x)) w.heap.size gb g s A c (some ⟨q, 0, none⟩) nc none 0 ⟨D, (List.replicate n zG).set 1 x, [], false⟩ := by
  have hq := (h.own.block q rfl).1
  have hl := h.lts
  have e : ((List.replicate n zG).set 1 x).map svR = ((List.replicate n zG).map svR).set 1 (svR x) := by rw [List.map_set]
  have ho := h.own.set rfl 1 (svR x)
  refine ⟨h.drv.otherCell (gb := q) (by omega) (by omega) (fun e => by have := hl.2.2.2.1 q e; omega) _ _, ?_, ?_, Cells.nil _ _, h.ne, ?_, ?_, ⟨h.ges.2.1, h.ges.2.2.1, h.ges.1, h.ges.2.2.2⟩⟩
  · have hb : BlkR (W.setCell ⟨q, 1, none⟩ (svR x)) gb 175 [.pointer (some ⟨g, 0, none⟩), .slice (some ⟨q, 0, none⟩) n nc, .slice none 0 0, .bool false] := (Below.heap_setCell _ _ _ _ (fun e => by have e' : gb = q := e; omega)).trans h.blk
    show BlkR _ gb 175 [_, .slice _ ((List.replicate n zG).set 1 x).length nc, _, _]
    rw [List.length_set, List.length_replicate]
    exact hb
  · show Cells _ _ (((List.replicate n zG).set 1 x).map svR)
    rw [e]
    exact ho.cells
  · intro k hk
    have hk' : q = k := by simpa [blockOf] using hk
    subst hk'
    refine ⟨?_, by omega, by omega, by omega, fun e => by have := hl.2.2.2.1 q e; omega⟩
    have := (h.own.block q rfl).2
    simpa using this
  · intro k hk
    cases hk
end Go.Proofs.Ytppbcdcmpcagdaa
