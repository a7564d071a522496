/- The plain law: a text is read as the reference reads it. No condition. -/
import Derived.Test.YtfldmapafdgpaaaWk
namespace Go.Proofs.Ytfldmapafdgpaaa
set_option linter.unusedSimpArgs false
set_option linter.unusedVariables false
open Go Go.Proofs Go.Vc

/-- Words between blanks: those that are ended, and the one under way. -/
def stepW (a : List (List UInt8) × List UInt8) (c : UInt8) : List (List UInt8) × List UInt8 := match decide (c = 32) with | true => (a.1 ++ [a.2], []) | false => (a.1, a.2 ++ [c])
def wordsF (l : List UInt8) : List (List UInt8) × List UInt8 := l.foldl stepW ([], [])
def joinW (a : List (List UInt8) × List UInt8) : List UInt8 := (a.1.map (· ++ [32])).flatten ++ a.2

theorem stepW_join (a : List (List UInt8) × List UInt8) (c : UInt8) : joinW (stepW a c) = joinW a ++ [c] := by
  unfold stepW
  by_cases h : c = 32
  · subst h; simp [joinW]
  · simp [joinW, h]
theorem wordsF_join (l : List UInt8) : joinW (wordsF l) = l := by
  have key : ∀ (l : List UInt8) (a : List (List UInt8) × List UInt8), joinW (l.foldl stepW a) = joinW a ++ l := by
    intro l
    induction l with
    | nil => intro a; simp
    | cons c l ih => intro a; rw [List.foldl_cons, ih, stepW_join]; simp
  have := key l ([], [])
  rw [show joinW ([], []) = [] from rfl, List.nil_append] at this
  exact this
theorem wordsF_word (p : List UInt8) (h : ∀ c, c ∈ p → c ≠ 32) : ∀ a : List (List UInt8) × List UInt8, p.foldl stepW a = (a.1, a.2 ++ p) := by
  induction p with
  | nil => intro a; simp
  | cons c p ih =>
    intro a
    have hc := h c (List.mem_cons_self ..)
    rw [List.foldl_cons, ih (fun d hd => h d (List.mem_cons_of_mem _ hd))]
    simp [stepW, hc]

theorem extract_list (s : ByteArray) (i k : Nat) : (s.extract i k).data.toList = (s.data.toList.take k).drop i := by
  rw [ByteArray.data_extract, Array.toList_extract, List.extract_eq_take_drop, List.drop_take]

theorem cut_words (s : ByteArray) : ∀ k, k ≤ s.size → (cut s k).1.map (·.data.toList) = (wordsF (s.data.toList.take k)).1 ∧ (s.data.toList.take k).drop (cut s k).2 = (wordsF (s.data.toList.take k)).2
  | 0, _ => by simp [cut, wordsF]
  | k + 1, hk => by
    have hsz : s.data.toList.length = s.size := Array.length_toList
    obtain ⟨h1, h2⟩ := cut_words s k (by omega)
    have hle := cut_le s k
    obtain ⟨c, hc⟩ : ∃ c, s.data.toList[k]? = some c := ⟨_, List.getElem?_eq_getElem (by omega)⟩
    have hw : wordsF (s.data.toList.take (k + 1)) = stepW (wordsF (s.data.toList.take k)) c := by
      rw [take_snoc hc, wordsF, List.foldl_append]; rfl
    have hne : decide (k = s.size) = false := by simp; omega
    rw [hw]
    unfold cut
    rw [hc, hne, Bool.false_or]
    by_cases h32 : c = 32
    · subst h32
      simp only [decide_true, stepW]
      refine ⟨?_, ?_⟩
      · rw [List.map_append, h1, ← h2]; simp only [List.map_cons, List.map_nil, extract_list]
      · rw [List.drop_eq_nil_of_le]; rw [List.length_take]; omega
    · have hd : decide (some c = some (32 : UInt8)) = false := by simpa using h32
      have hd' : decide (c = 32) = false := by simpa using h32
      simp only [hd, stepW, hd']
      refine ⟨h1, ?_⟩
      rw [take_snoc hc, List.drop_append_of_le_length (by rw [List.length_take]; omega), h2]

theorem cut_end (s : ByteArray) : (cut s (s.size + 1)).1.map (·.data.toList) = (wordsF s.data.toList).1 ++ [(wordsF s.data.toList).2] := by
  have hsz : s.data.toList.length = s.size := Array.length_toList
  obtain ⟨h1, h2⟩ := cut_words s s.size (Nat.le_refl _)
  rw [List.take_of_length_le (by omega)] at h1 h2
  unfold cut
  simp only [decide_true, Bool.true_or]
  rw [List.map_append, h1, ← h2]
  simp only [List.map_cons, List.map_nil, extract_list]
  rw [List.take_of_length_le (by omega)]

theorem cut_of (p0 p1 p2 p3 s : ByteArray) (h0 : ∀ c, c ∈ p0.data.toList → c ≠ 32) (h1 : ∀ c, c ∈ p1.data.toList → c ≠ 32) (h2 : ∀ c, c ∈ p2.data.toList → c ≠ 32) (h3 : ∀ c, c ∈ p3.data.toList → c ≠ 32)
    (hs : s.data.toList = p0.data.toList ++ [32] ++ p1.data.toList ++ [32] ++ p2.data.toList ++ [32] ++ p3.data.toList) : (cut s (s.size + 1)).1 = [p0, p1, p2, p3] := by
  have h := cut_end s
  have hw : wordsF s.data.toList = ([p0.data.toList, p1.data.toList, p2.data.toList], p3.data.toList) := by
    rw [hs, wordsF]
    simp only [List.foldl_append, wordsF_word _ h0, wordsF_word _ h1, wordsF_word _ h2, wordsF_word _ h3, List.foldl_cons, List.foldl_nil, stepW, decide_true, List.nil_append, List.cons_append]
  rw [hw] at h
  have inj : ∀ (l l' : List ByteArray), l.map (·.data.toList) = l'.map (·.data.toList) → l = l' := by
    intro l
    induction l with
    | nil => intro l' h; cases l' with
      | nil => rfl
      | cons => simp at h
    | cons x l ih =>
      intro l' h
      cases l' with
      | nil => simp at h
      | cons y l' =>
        simp only [List.map_cons, List.cons.injEq] at h
        rw [ih l' h.2]
        congr 1
        cases x; cases y
        simp only [ByteArray.mk.injEq]
        exact Array.toList_inj.1 h.1
  exact inj _ [p0, p1, p2, p3] (by rw [h]; rfl)

theorem cut_join (s p0 p1 p2 p3 : ByteArray) (h : (cut s (s.size + 1)).1 = [p0, p1, p2, p3]) :
    s.data.toList = p0.data.toList ++ [32] ++ p1.data.toList ++ [32] ++ p2.data.toList ++ [32] ++ p3.data.toList := by
  have h1 := cut_end s
  have h2 := wordsF_join s.data.toList
  rw [h] at h1
  simp only [List.map_cons, List.map_nil] at h1
  have h3 : (wordsF s.data.toList).1 = [p0.data.toList, p1.data.toList, p2.data.toList] ∧ (wordsF s.data.toList).2 = p3.data.toList := by
    have := (List.append_inj' (s₁ := [p0.data.toList, p1.data.toList, p2.data.toList]) (t₁ := [p3.data.toList]) h1 rfl)
    exact ⟨this.1.symm, by simpa using this.2.symm⟩
  rw [joinW, h3.1, h3.2] at h2
  rw [← h2]
  simp

theorem u8_dig {n : Nat} (h : n < 10) : (UInt8.ofNat (48 + n)).toNat = 48 + n := by
  rw [UInt8.toNat_ofNat']; omega
theorem decF_dig : ∀ (k n : Nat), n < 10 ^ (k + 1) → ∀ c, c ∈ decF k n → dig c = true := by
  intro k
  induction k with
  | zero =>
    intro n h c hc
    rw [decF_small _ _ (by omega)] at hc
    rw [List.mem_singleton] at hc; subst hc
    rw [dig_iff, u8_dig (by omega)]; omega
  | succ k ih =>
    intro n h c hc
    by_cases hn : n < 10
    · rw [decF_small _ _ hn] at hc
      rw [List.mem_singleton] at hc; subst hc
      rw [dig_iff, u8_dig hn]; omega
    · rw [decF_step _ _ (by omega)] at hc
      rcases List.mem_append.1 hc with hc | hc
      · exact ih (n / 10) (by rw [Nat.pow_succ] at h; omega) c hc
      · rw [List.mem_singleton] at hc; subst hc
        rw [dig_iff, u8_dig (by omega)]; omega
theorem decF_val : ∀ (k n : Nat), n < 10 ^ (k + 1) → valL (decF k n) = n := by
  intro k
  induction k with
  | zero =>
    intro n h
    rw [decF_small _ _ (by omega)]
    show 10 * 0 + ((UInt8.ofNat (48 + n)).toNat - 48) = n
    rw [u8_dig (show n < 10 by omega)]; omega
  | succ k ih =>
    intro n h
    by_cases hn : n < 10
    · rw [decF_small _ _ hn]
      show 10 * 0 + ((UInt8.ofNat (48 + n)).toNat - 48) = n
      rw [u8_dig hn]; omega
    · rw [decF_step _ _ (by omega), valL_snoc, ih (n / 10) (by rw [Nat.pow_succ] at h; omega), u8_dig (by omega)]
      omega
theorem dec6_list (n : Nat) : (dec6 (n : Int)).data.toList = decF 5 n := by simp [dec6]
theorem numberS_dec {n : Nat} (h : n < 1000000) : numberS (dec6 (n : Int)) = n := by
  have h1 := decF_val 5 n (by omega)
  have h2 : (dec6 (n : Int)).data.toList.all dig = true := by rw [List.all_eq_true, dec6_list]; exact decF_dig 5 n (by omega)
  have h3 := dec6_size (n : Int)
  unfold numberS
  rw [h2, dec6_list, h1]
  simp [h3]

theorem lastS_of (s : ByteArray) (X : List UInt8) (n : Nat) (hn : n < 1000000) (hs : s.data.toList = X ++ [32] ++ (dec6 (n : Int)).data.toList) : lastS s = n := by
  have hsz : s.data.toList.length = s.size := Array.length_toList
  rw [dec6_list] at hs
  have hd := decF_dig 5 n (by omega)
  have hl := decF_len 5 n
  have ht : tailN s.data.toList = (decF 5 n).length := by
    rw [hs, tailN, List.reverse_append, List.takeWhile_append_of_pos (fun c hc => hd c (List.mem_reverse.1 hc)), List.reverse_append, List.length_append, List.length_reverse]
    rfl
  unfold lastS
  rw [ht, show decide ((decF 5 n).length ≤ 6) = true by simpa using hl]
  have hlen : s.size = X.length + 1 + (decF 5 n).length := by rw [← hsz, hs]; simp; omega
  simp only []
  rw [hs, show s.size - (decF 5 n).length = (X ++ [32]).length by simp; omega, List.drop_left, decF_val 5 n (by omega)]

theorem dec6_no32 (n : Nat) (hn : n < 1000000) : ∀ c, c ∈ (dec6 (n : Int)).data.toList → c ≠ 32 := by
  intro c hc
  rw [dec6_list] at hc
  have h1 := (dig_iff c).1 (decF_dig 5 n (by omega) c hc)
  intro h; subst h
  exact absurd h1.1 (by decide)
theorem mstr_no32 {m : Int} (h : 1 ≤ m ∧ m ≤ 3) : ∀ c, c ∈ (mstr m).data.toList → c ≠ 32 := by
  have : m = 1 ∨ m = 2 ∨ m = 3 := by omega
  rcases this with rfl | rfl | rfl <;> decide
theorem ostr_no32 {m : Int} (h : 1 ≤ m ∧ m ≤ 2) : ∀ c, c ∈ (ostr m).data.toList → c ≠ 32 := by
  have : m = 1 ∨ m = 2 := by omega
  rcases this with rfl | rfl <;> decide
theorem place_mstr {m : Int} (h : 1 ≤ m ∧ m ≤ 3) : ((placeL modelsL (mstr m) : Nat) : Int) = m := by
  have : m = 1 ∨ m = 2 ∨ m = 3 := by omega
  rcases this with rfl | rfl | rfl <;> decide
theorem place_ostr {m : Int} (h : 1 ≤ m ∧ m ≤ 2) : ((placeL modesL (ostr m) : Nat) : Int) = m := by
  have : m = 1 ∨ m = 2 := by omega
  rcases this with rfl | rfl <;> decide

theorem show_list {m r o b : Int} (hR : rightB m r o b = true) :
    (showS m r o b).data.toList = (mstr m).data.toList ++ [32] ++ (dec6 r).data.toList ++ [32] ++ (ostr o).data.toList ++ [32] ++ (dec6 b).data.toList := by
  unfold showS
  rw [hR]
  simp only [ByteArray.data_append, Array.toList_append]
  rfl

/-- What is shown is read back. -/
theorem parse_show {m r o b : Int} (hR : rightB m r o b = true) : parseS (showS m r o b) = good m r o b := by
  obtain ⟨b1, b2, b3, b4⟩ := right_bounds hR
  obtain ⟨r', rfl⟩ : ∃ k : Nat, r = (k : Int) := ⟨r.toNat, by omega⟩
  obtain ⟨b', rfl⟩ : ∃ k : Nat, b = (k : Int) := ⟨b.toNat, by omega⟩
  have hc := cut_of (mstr m) (dec6 r') (ostr o) (dec6 b') _ (mstr_no32 b1) (dec6_no32 r' (by omega)) (ostr_no32 b3) (dec6_no32 b' (by omega)) (show_list hR)
  unfold parseS
  rw [hc]
  simp only []
  rw [place_mstr b1, place_ostr b3, numberS_dec (by omega), numberS_dec (by omega), hR]

theorem place_back {l : List ByteArray} {s : ByteArray} (h : 0 < placeL l s) : l[placeL l s]? = some s := by
  unfold placeL at h ⊢
  cases hf : l.findIdx? (fun x => decide (x = s)) with
  | none => rw [hf] at h; exact absurd h (by decide)
  | some k =>
    obtain ⟨hk, hp, _⟩ := List.findIdx?_eq_some_iff_getElem.1 hf
    simp only [Option.getD_some]
    rw [List.getElem?_eq_getElem hk]
    simpa using hp
theorem numberS_back {s : ByteArray} (h : 0 < numberS s) : dec6 (numberS s : Nat) = s := by
  unfold numberS at h ⊢
  split at h
  · split at h
    · rename_i h2
      exact of_decide_eq_true h2
    · exact absurd h (by decide)
  · exact absurd h (by decide)

theorem parse_back {s p0 p1 p2 p3 : ByteArray} (hc : (cut s (s.size + 1)).1 = [p0, p1, p2, p3]) (hR : rightB (placeL modelsL p0 : Nat) (numberS p1 : Nat) (placeL modesL p2 : Nat) (numberS p3 : Nat) = true) :
    showS (placeL modelsL p0 : Nat) (numberS p1 : Nat) (placeL modesL p2 : Nat) (numberS p3 : Nat) = s := by
  obtain ⟨b1, b2, b3, b4⟩ := right_bounds hR
  have e0 : mstr (placeL modelsL p0 : Nat) = p0 := by unfold mstr; rw [Int.toNat_natCast, place_back (by omega)]; rfl
  have e2 : ostr (placeL modesL p2 : Nat) = p2 := by unfold ostr; rw [Int.toNat_natCast, place_back (by omega)]; rfl
  have e1 := numberS_back (s := p1) (by omega)
  have e3 := numberS_back (s := p3) (by omega)
  have h := cut_join s p0 p1 p2 p3 hc
  have h2 := show_list hR
  rw [e0, e1, e2, e3, ← h] at h2
  apply ByteArray.ext
  exact Array.toList_inj.1 h2

theorem refP_eq (s : ByteArray) : refP s = parseS s := by
  have key : ∀ k, cand s k = true → parseS s = candD s k := by
    intro k h
    unfold cand at h
    rw [Bool.and_eq_true] at h
    have h2 := of_decide_eq_true h.2
    have := parse_show h.1
    rw [h2] at this
    exact this
  unfold refP
  cases hf : (List.range 24).find? (cand s) with
  | some k => exact (key k (List.find?_some hf)).symm
  | none =>
    simp only []
    rw [List.find?_eq_none] at hf
    unfold parseS
    split
    · rename_i p0 p1 p2 p3 hc
      cases hR : rightB (placeL modelsL p0 : Nat) (numberS p1 : Nat) (placeL modesL p2 : Nat) (numberS p3 : Nat) with
      | false => rfl
      | true =>
        exfalso
        have hs := parse_back hc hR
        obtain ⟨b1, b2, b3, b4⟩ := right_bounds hR
        have hj := cut_join s p0 p1 p2 p3 hc
        have hl : lastS s = numberS p3 := lastS_of s (p0.data.toList ++ [32] ++ p1.data.toList ++ [32] ++ p2.data.toList) (numberS p3) (by omega) (by rw [hj, numberS_back (by omega)])
        generalize placeL modelsL p0 = m at *
        generalize numberS p1 = r at *
        generalize placeL modesL p2 = o at *
        refine hf (8 * (m - 1) + 2 * (r - 1) + (o - 1)) (List.mem_range.2 (by omega)) ?_
        unfold cand
        rw [show 1 + (8 * (m - 1) + 2 * (r - 1) + (o - 1)) / 8 = m by omega, show 1 + (8 * (m - 1) + 2 * (r - 1) + (o - 1)) / 2 % 4 = r by omega, show 1 + (8 * (m - 1) + 2 * (r - 1) + (o - 1)) % 2 = o by omega, hl, hR, hs]
        simp
    · rfl
end Go.Proofs.Ytfldmapafdgpaaa
