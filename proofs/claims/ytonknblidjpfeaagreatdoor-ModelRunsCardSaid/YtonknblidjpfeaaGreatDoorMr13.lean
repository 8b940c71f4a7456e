/- Part 13 of the proof: the abstract machine, what the functions compute, and plain laws over that. -/
import Derived.Test.YtonknblidjpfeaaGreatDoorMr12
set_option linter.all false
set_option linter.unusedSimpArgs false
set_option linter.unusedVariables false
set_option linter.unusedSectionVars false
namespace Go.AM.SZ
open Go Go.AM
def bN (t : ByteArray) (k : Nat) : Nat := (t.data.toList.getD k 0).toNat
theorem byteAt_bN (t : ByteArray) (k : Nat) : byteAt t k = (bN t k : Int) := rfl
theorem bN_lt (t : ByteArray) (k : Nat) : bN t k < 256 := (t.data.toList.getD k 0).toNat_lt
theorem cv_byte (t : ByteArray) (k : Nat) : cv .i64 (byteAt t k) = (bN t k : Int) := by
  have := bN_lt t k
  have h := ad64 (a := (bN t k : Int)) (b := 0) (by omega) (by omega)
  rw [byteAt_bN]
  simpa [ad, cv] using h
theorem r22 {M N : Nat} {t : ByteArray} {n i : Nat} {low v : Int} (hi : i < n) (hn : n ≤ 4) (hs : n ≤ t.size) (hv0 : 0 ≤ v) (hv1 : v ≤ 100000000) (K : F137.X22 → Option D) (NEG : Option D)
    (h0 : ∀ a b c d e, K (.e0 a b c d e) = NEG) (h1 : ∀ a b c d e, K (.e1 a b c d e) = NEG) :
    goS (F137.st22 M) (N + 1) ⟨t, (n : Int), low, v, (i : Int)⟩ K = if 128 ≤ bN t i ∧ bN t i ≤ 191 then goS (F137.st22 M) N ⟨t, (n : Int), low, v * 64 + (bN t i : Int) - 128, ((i + 1 : Nat) : Int)⟩ K else NEG := by
  have hb := bN_lt t i
  have hml : ml .i64 v 64 = v * 64 := ml64 (by omega) (by omega)
  have had : ad .i64 (v * 64) (bN t i : Int) = v * 64 + (bN t i : Int) := ad64 (by omega) (by omega)
  have hsb : sb .i64 (v * 64 + (bN t i : Int)) 128 = v * 64 + (bN t i : Int) - 128 := sb64 (by omega) (by omega)
  have hadd : ad .i64 (i : Int) 1 = ((i + 1 : Nat) : Int) := by rw [ad64 (by omega) (by omega)]; rfl
  show F137.st22 M ⟨t, (n : Int), low, v, (i : Int)⟩ (fun s => goS (F137.st22 M) N s K) K = _
  simp only [F137.st22, Int.toNat_natCast, cv_byte, hml, had, hsb, hadd]
  by_cases hc : 128 ≤ bN t i ∧ bN t i ≤ 191
  · rw [if_pos hc]
    exact ct (by simp; omega) (ct (by simp; omega) (cf (by simp; omega) (cf (by simp; omega) rfl)))
  · rw [if_neg hc]
    refine ct (by simp; omega) (ct (by simp; omega) ?_)
    by_cases h : bN t i < 128
    · exact ct (by simp; omega) (h0 _ _ _ _ _)
    · exact cf (by simp; omega) (ct (by simp; omega) (h1 _ _ _ _ _))
theorem e22 {M N : Nat} {t : ByteArray} {n : Nat} {low v : Int} (K : F137.X22 → Option D) : goS (F137.st22 M) (N + 1) ⟨t, (n : Int), low, v, (n : Int)⟩ K = K (.e2 t (n : Int) low v (n : Int)) := by
  show F137.st22 M ⟨t, (n : Int), low, v, (n : Int)⟩ (fun s => goS (F137.st22 M) N s K) K = _
  simp only [F137.st22]
  exact cf (by simp) rfl
def refR (p : Nat × Nat) : Int × Int := if p.1 = 65533 ∧ p.2 < 2 then (-1, 1) else ((p.1 : Int), (p.2 : Int))
def tupR (x : Int × Int) : Option D := some (D.tup [di x.1, di x.2])
theorem decode_bN (t : ByteArray) : Utf8.decode t 0 = Lib.decodeN t.size (bN t 0) (bN t 1) (bN t 2) (bN t 3) := by
  rw [Lib.decode_N]
  rfl
theorem neg_R : tupR (refR (65533, 1)) = some (D.tup [di (-1), di 1]) := rfl
theorem rune_spec (t : ByteArray) (ht : 0 < t.size) : F137.s FUEL t = tupR (refR (Utf8.decode t 0)) := by
  rw [decode_bN]
  have k0 := bN_lt t 0
  have k1 := bN_lt t 1
  have k2 := bN_lt t 2
  have k3 := bN_lt t 3
  generalize hb1 : bN t 1 = b1 at k1
  generalize hb2 : bN t 2 = b2 at k2
  generalize hb3 : bN t 3 = b3 at k3
  unfold F137.s
  simp only [cv_byte]
  generalize hb0 : bN t 0 = b0 at k0
  refine ct (by simp only [inb_t]; omega) ?_
  have hF : FUEL = 1048572 + 1 + 1 + 1 + 1 := rfl
  by_cases c0 : b0 < 128
  · refine ct (by simp only [ltI_t]; omega) ?_
    have : Lib.decodeN t.size b0 b1 b2 b3 = (b0, 1) := by unfold Lib.decodeN; rw [if_pos c0]
    rw [this]
    unfold refR tupR
    rw [if_neg (by dsimp only; omega)]
    rfl
  refine cf (by simp only [ltI_f]; omega) ?_
  by_cases c1 : b0 < 194
  · have : Lib.decodeN t.size b0 b1 b2 b3 = (65533, 1) := by
      unfold Lib.decodeN
      rw [if_neg c0]
      split
      · rw [if_neg (by omega)]
      · rw [if_neg (by omega), if_neg (by omega)]
    rw [this, neg_R]
    refine cf (by simp only [geI_f]; omega) (cf (by simp only [geI_f]; omega) (cf (by simp only [geI_f]; omega) rfl))
  by_cases c2 : b0 < 224
  · refine ct (by simp only [geI_t]; omega) (ct (by simp only [ltI_t]; omega) ?_)
    by_cases hsz : t.size < 2
    · have : Lib.decodeN t.size b0 b1 b2 b3 = (65533, 1) := by
        unfold Lib.decodeN
        rw [if_neg c0, if_neg (by omega), if_neg (by omega), if_neg (by omega)]
      rw [this, neg_R]
      exact ct (by simp only [ltI_t, nI_eq]; omega) rfl
    refine cf (by simp only [ltI_f, nI_eq]; omega) ?_
    have hsb : sb .i64 (b0 : Int) 192 = (b0 : Int) - 192 := sb64 (by omega) (by omega)
    rw [hsb]
    have step := r22 (M := FUEL) (N := 1048572 + 1 + 1 + 1) (t := t) (n := 2) (i := 1) (low := 128) (v := (b0 : Int) - 192) (by omega) (by omega) (by omega) (by omega) (by omega)
      (fun x => match x with | .e0 s1 i2 i3 i4 i5 => (some (D.tup [(di (-1)), (di 1)])) | .e1 s1 i2 i3 i4 i5 => (some (D.tup [(di (-1)), (di 1)])) | .e2 s1 i2 i3 i4 i5 => (cond (ltI i4 i3) (some (D.tup [(di (-1)), (di 1)])) (cond (gtI i4 1114111) (some (D.tup [(di (-1)), (di 1)])) (cond (geI i4 55296) (cond (leI i4 57343) (some (D.tup [(di (-1)), (di 1)])) (some (D.tup [(di i4), (di i2)]))) (some (D.tup [(di i4), (di i2)])))))) (some (D.tup [(di (-1)), (di 1)])) (fun _ _ _ _ _ => rfl) (fun _ _ _ _ _ => rfl)
    refine Eq.trans step ?_
    rw [hb1]
    by_cases hc : 128 ≤ b1 ∧ b1 ≤ 191
    · rw [if_pos hc, e22]
      have : Lib.decodeN t.size b0 b1 b2 b3 = (b0 % 32 * 64 + b1 % 64, 2) := by
        unfold Lib.decodeN
        rw [if_neg c0, if_pos (by omega), if_pos (by omega)]
      rw [this]
      have hv : ((b0 : Int) - 192) * 64 + (b1 : Int) - 128 = ((b0 % 32 * 64 + b1 % 64 : Nat) : Int) := by omega
      rw [hv]
      refine cf (by simp only [ltI_f]; omega) (cf (by simp only [gtI_f]; omega) (cf (by simp only [geI_f]; omega) ?_))
      unfold refR tupR
      rw [if_neg (by dsimp only; omega)]
    · rw [if_neg hc]
      have : Lib.decodeN t.size b0 b1 b2 b3 = (65533, 1) := by
        unfold Lib.decodeN
        rw [if_neg c0, if_neg (by omega), if_neg (by omega), if_neg (by omega)]
      rw [this, neg_R]
  refine ct (by simp only [geI_t]; omega) (cf (by simp only [ltI_f]; omega) ?_)
  by_cases c3 : b0 < 240
  · refine ct (by simp only [geI_t]; omega) (ct (by simp only [ltI_t]; omega) ?_)
    by_cases hsz : t.size < 3
    · have : Lib.decodeN t.size b0 b1 b2 b3 = (65533, 1) := by
        unfold Lib.decodeN
        rw [if_neg c0, if_neg (by omega), if_neg (by omega), if_neg (by omega)]
      rw [this, neg_R]
      exact ct (by simp only [ltI_t, nI_eq]; omega) rfl
    refine cf (by simp only [ltI_f, nI_eq]; omega) ?_
    have hsb : sb .i64 (b0 : Int) 224 = (b0 : Int) - 224 := sb64 (by omega) (by omega)
    rw [hsb]
    have step := r22 (M := FUEL) (N := 1048572 + 1 + 1 + 1) (t := t) (n := 3) (i := 1) (low := 2048) (v := (b0 : Int) - 224) (by omega) (by omega) (by omega) (by omega) (by omega)
      (fun x => match x with | .e0 s1 i2 i3 i4 i5 => (some (D.tup [(di (-1)), (di 1)])) | .e1 s1 i2 i3 i4 i5 => (some (D.tup [(di (-1)), (di 1)])) | .e2 s1 i2 i3 i4 i5 => (cond (ltI i4 i3) (some (D.tup [(di (-1)), (di 1)])) (cond (gtI i4 1114111) (some (D.tup [(di (-1)), (di 1)])) (cond (geI i4 55296) (cond (leI i4 57343) (some (D.tup [(di (-1)), (di 1)])) (some (D.tup [(di i4), (di i2)]))) (some (D.tup [(di i4), (di i2)])))))) (some (D.tup [(di (-1)), (di 1)])) (fun _ _ _ _ _ => rfl) (fun _ _ _ _ _ => rfl)
    refine Eq.trans step ?_
    rw [hb1]
    by_cases hc : 128 ≤ b1 ∧ b1 ≤ 191
    · rw [if_pos hc, r22 (by omega) (by omega) (by omega) (by omega) (by omega) _ (some (D.tup [(di (-1)), (di 1)])) (fun _ _ _ _ _ => rfl) (fun _ _ _ _ _ => rfl), hb2]
      by_cases hc2 : 128 ≤ b2 ∧ b2 ≤ 191
      · rw [if_pos hc2, e22]
        have hv : (((b0 : Int) - 224) * 64 + (b1 : Int) - 128) * 64 + (b2 : Int) - 128 = ((b0 % 16 * 4096 + b1 % 64 * 64 + b2 % 64 : Nat) : Int) := by omega
        rw [hv]
        generalize hcc : b0 % 16 * 4096 + b1 % 64 * 64 + b2 % 64 = c
        by_cases hok : c ≥ 2048 ∧ (c < 55296 ∨ (57344 ≤ c ∧ c ≤ 1114111))
        · have : Lib.decodeN t.size b0 b1 b2 b3 = (c, 3) := by
            unfold Lib.decodeN
            rw [if_neg c0, if_neg (by omega), if_pos (by omega), hcc, if_pos hok]
          rw [this]
          refine cf (by simp only [ltI_f]; omega) (cf (by simp only [gtI_f]; omega) ?_)
          have hfin : some (D.tup [di (c : Int), di ((3 : Nat) : Int)]) = tupR (refR (c, 3)) := by
            unfold refR tupR
            rw [if_neg (by dsimp only; omega)]
          by_cases h55 : 55296 ≤ c
          · exact ct (by simp only [geI_t]; omega) (cf (by simp only [leI_f]; omega) hfin)
          · exact cf (by simp only [geI_f]; omega) hfin
        · have : Lib.decodeN t.size b0 b1 b2 b3 = (65533, 1) := by
            unfold Lib.decodeN
            rw [if_neg c0, if_neg (by omega), if_pos (by omega), hcc, if_neg hok]
          rw [this, neg_R]
          by_cases hlow : c < 2048
          · exact ct (by simp only [ltI_t]; omega) rfl
          · refine cf (by simp only [ltI_f]; omega) (cf (by simp only [gtI_f]; omega) (ct (by simp only [geI_t]; omega) (ct (by simp only [leI_t]; omega) rfl)))
      · rw [if_neg hc2]
        have : Lib.decodeN t.size b0 b1 b2 b3 = (65533, 1) := by
          unfold Lib.decodeN
          rw [if_neg c0, if_neg (by omega), if_neg (by omega), if_neg (by omega)]
        rw [this, neg_R]
    · rw [if_neg hc]
      have : Lib.decodeN t.size b0 b1 b2 b3 = (65533, 1) := by
        unfold Lib.decodeN
        rw [if_neg c0, if_neg (by omega), if_neg (by omega), if_neg (by omega)]
      rw [this, neg_R]
  refine ct (by simp only [geI_t]; omega) (cf (by simp only [ltI_f]; omega) (ct (by simp only [geI_t]; omega) ?_))
  by_cases c4 : b0 < 245
  · refine ct (by simp only [ltI_t]; omega) ?_
    by_cases hsz : t.size < 4
    · have : Lib.decodeN t.size b0 b1 b2 b3 = (65533, 1) := by
        unfold Lib.decodeN
        rw [if_neg c0, if_neg (by omega), if_neg (by omega), if_neg (by omega)]
      rw [this, neg_R]
      exact ct (by simp only [ltI_t, nI_eq]; omega) rfl
    refine cf (by simp only [ltI_f, nI_eq]; omega) ?_
    have hsb : sb .i64 (b0 : Int) 240 = (b0 : Int) - 240 := sb64 (by omega) (by omega)
    rw [hsb]
    have step := r22 (M := FUEL) (N := 1048572 + 1 + 1 + 1) (t := t) (n := 4) (i := 1) (low := 65536) (v := (b0 : Int) - 240) (by omega) (by omega) (by omega) (by omega) (by omega)
      (fun x => match x with | .e0 s1 i2 i3 i4 i5 => (some (D.tup [(di (-1)), (di 1)])) | .e1 s1 i2 i3 i4 i5 => (some (D.tup [(di (-1)), (di 1)])) | .e2 s1 i2 i3 i4 i5 => (cond (ltI i4 i3) (some (D.tup [(di (-1)), (di 1)])) (cond (gtI i4 1114111) (some (D.tup [(di (-1)), (di 1)])) (cond (geI i4 55296) (cond (leI i4 57343) (some (D.tup [(di (-1)), (di 1)])) (some (D.tup [(di i4), (di i2)]))) (some (D.tup [(di i4), (di i2)])))))) (some (D.tup [(di (-1)), (di 1)])) (fun _ _ _ _ _ => rfl) (fun _ _ _ _ _ => rfl)
    refine Eq.trans step ?_
    rw [hb1]
    by_cases hc : 128 ≤ b1 ∧ b1 ≤ 191
    · rw [if_pos hc, r22 (by omega) (by omega) (by omega) (by omega) (by omega) _ (some (D.tup [(di (-1)), (di 1)])) (fun _ _ _ _ _ => rfl) (fun _ _ _ _ _ => rfl), hb2]
      by_cases hc2 : 128 ≤ b2 ∧ b2 ≤ 191
      · rw [if_pos hc2, r22 (by omega) (by omega) (by omega) (by omega) (by omega) _ (some (D.tup [(di (-1)), (di 1)])) (fun _ _ _ _ _ => rfl) (fun _ _ _ _ _ => rfl), hb3]
        by_cases hc3 : 128 ≤ b3 ∧ b3 ≤ 191
        · rw [if_pos hc3, e22]
          have hv : ((((b0 : Int) - 240) * 64 + (b1 : Int) - 128) * 64 + (b2 : Int) - 128) * 64 + (b3 : Int) - 128 = ((b0 % 8 * 262144 + b1 % 64 * 4096 + b2 % 64 * 64 + b3 % 64 : Nat) : Int) := by omega
          rw [hv]
          generalize hcc : b0 % 8 * 262144 + b1 % 64 * 4096 + b2 % 64 * 64 + b3 % 64 = c
          by_cases hok : c ≥ 65536 ∧ (c < 55296 ∨ (57344 ≤ c ∧ c ≤ 1114111))
          · have : Lib.decodeN t.size b0 b1 b2 b3 = (c, 4) := by
              unfold Lib.decodeN
              rw [if_neg c0, if_neg (by omega), if_neg (by omega), if_pos (by omega), hcc, if_pos hok]
            rw [this]
            refine cf (by simp only [ltI_f]; omega) (cf (by simp only [gtI_f]; omega) (ct (by simp only [geI_t]; omega) (cf (by simp only [leI_f]; omega) ?_)))
            unfold refR tupR
            rw [if_neg (by dsimp only; omega)]
          · have : Lib.decodeN t.size b0 b1 b2 b3 = (65533, 1) := by
              unfold Lib.decodeN
              rw [if_neg c0, if_neg (by omega), if_neg (by omega), if_pos (by omega), hcc, if_neg hok]
            rw [this, neg_R]
            by_cases hlow : c < 65536
            · exact ct (by simp only [ltI_t]; omega) rfl
            · exact cf (by simp only [ltI_f]; omega) (ct (by simp only [gtI_t]; omega) rfl)
        · rw [if_neg hc3]
          have : Lib.decodeN t.size b0 b1 b2 b3 = (65533, 1) := by
            unfold Lib.decodeN
            rw [if_neg c0, if_neg (by omega), if_neg (by omega), if_neg (by omega)]
          rw [this, neg_R]
      · rw [if_neg hc2]
        have : Lib.decodeN t.size b0 b1 b2 b3 = (65533, 1) := by
          unfold Lib.decodeN
          rw [if_neg c0, if_neg (by omega), if_neg (by omega), if_neg (by omega)]
        rw [this, neg_R]
    · rw [if_neg hc]
      have : Lib.decodeN t.size b0 b1 b2 b3 = (65533, 1) := by
        unfold Lib.decodeN
        rw [if_neg c0, if_neg (by omega), if_neg (by omega), if_neg (by omega)]
      rw [this, neg_R]
  · refine cf (by simp only [ltI_f]; omega) ?_
    have : Lib.decodeN t.size b0 b1 b2 b3 = (65533, 1) := by
      unfold Lib.decodeN
      rw [if_neg c0, if_neg (by omega), if_neg (by omega)]
      split
      · rw [if_neg (by omega)]
      · rfl
    rw [this, neg_R]
theorem runes_ref (s : ByteArray) (hs : s.size ≤ 1048576) : F103.s FUEL s = some (dl (!(keys s).isEmpty) ((keys s).map di)) := by
  unfold F103.s
  have hlen := keys_len s
  have key : ∀ p, p < s.size → (runesFrom s p).map (keyR s) = keyR s (p, (Utf8.decode s p).1) :: (runesFrom s (p + (Utf8.decode s p).2)).map (keyR s) := fun p hp => by rw [runesFrom_step hp]; rfl
  refine goS_rule (fun t : F103.S3 => ∃ (p : Nat) (l : List Int), t = ⟨s, 0, l.length, (p : Int), !l.isEmpty, l.map di⟩ ∧ p ≤ s.size + 4 ∧ keys s = l ++ (runesFrom s p).map (keyR s)) (fun t => s.size - t.i4.toNat) (fun o => o = some (dl (!(keys s).isEmpty) ((keys s).map di))) ?_ _ _ ⟨0, [], rfl, by omega, by simp [keys, runes, runesFrom]⟩ (by simp [FUEL]; omega)
  rintro _ rec ⟨p, l, rfl, hp4, hk⟩ hrec
  have hll : l.length ≤ s.size := by
    have := congrArg List.length hk
    simp at this; omega
  simp only [F103.st3]
  by_cases h : p < s.size
  · refine ct (by simp only [ltI_t, nI_eq]; omega) (ct (by simp; omega) ?_)
    have hsz : (s.extract (Int.toNat (p : Int)) s.size).size = s.size - p := by simp
    refine bdS (rune_spec _ (by rw [hsz]; omega)) ?_
    have hde : Utf8.decode (s.extract (Int.toNat (p : Int)) s.size) 0 = Utf8.decode s p := by rw [Int.toNat_natCast, Lib.tail_decode, Nat.add_zero]
    rw [hde]
    rw [key p h] at hk
    have hpos := decode_pos s p
    have hw : (Utf8.decode s p).2 ≤ 4 := by
      rw [Lib.decode_N]
      generalize (s.data.toList.length - p) = n
      rcases Lib.decodeN_shape n (s.data.toList.getD p 0).toNat (s.data.toList.getD (p + 1) 0).toNat (s.data.toList.getD (p + 2) 0).toNat (s.data.toList.getD (p + 3) 0).toNat with ⟨_, e⟩ | ⟨_, _, _, _, e⟩ | ⟨_, _, _, _, _, _, e⟩ | ⟨_, _, _, _, _, _, _, e⟩ | e
      all_goals rw [e]; simp
    have htop := dec_top s p
    have fin : ∀ (x : Int) (w : Int), x = keyR s (p, (Utf8.decode s p).1) → w = ((Utf8.decode s p).2 : Int) → rec ⟨s, 0, l.length + 1, ad .i64 (p : Int) w, !l.isEmpty || true, ap (((l.map di).drop 0).take l.length) [di x]⟩ = some (dl (!(keys s).isEmpty) ((keys s).map di)) := by
      rintro x w rfl rfl
      have hadd : ad .i64 (p : Int) ((Utf8.decode s p).2 : Int) = ((p + (Utf8.decode s p).2 : Nat) : Int) := by rw [ad64 (by omega) (by omega)]; rfl
      rw [hadd]
      refine hrec _ ⟨p + (Utf8.decode s p).2, l ++ [keyR s (p, (Utf8.decode s p).1)], ?_, by omega, by rw [hk]; simp⟩ ?_
      · rw [F103.S3.mk.injEq]
        refine ⟨rfl, rfl, by simp, rfl, by cases l <;> rfl, ?_⟩
        rw [List.drop_zero, List.take_of_length_le (by simp), ap, List.map_append]
        rfl
      · dsimp only; omega
    unfold refR
    by_cases hb : (Utf8.decode s p).1 = 65533 ∧ (Utf8.decode s p).2 < 2
    · rw [if_pos hb]
      have hr := byteAt_range s p
      refine ct (by show ltI (-1) 0 = true; simp) (ct (by simp only [inb_t]; omega) (ct (by simp; omega) ?_))
      have e1 : ad .i64 1114112 (cv .i64 (byteAt s (Int.toNat (p : Int)))) = keyR s (p, (Utf8.decode s p).1) := by
        rw [Int.toNat_natCast, cv_byte, ← byteAt_bN, ad64 (by omega) (by omega), keyR, if_pos hb]
      exact fin _ _ e1 (by show (1 : Int) = _; omega)
    · rw [if_neg hb]
      refine cf (by show ltI ((Utf8.decode s p).1 : Int) 0 = false; simp) (ct (by simp; omega) ?_)
      exact fin _ _ (by rw [keyR, if_neg hb]) rfl
  · refine cf (by simp only [ltI_f, nI_eq]; omega) ?_
    rw [runesFrom_end (by omega)] at hk
    simp only [List.map_nil, List.append_nil] at hk
    rw [hk]
    exact ct (by simp) rfl
theorem less_ref (a b : ByteArray) (ha : a.size ≤ 1048576) (hb : b.size ≤ 1048576) : F104.s FUEL a b = some (db (lessB a b)) := by
  unfold F104.s
  refine bdS (runes_ref a ha) (bdS (runes_ref b hb) ?_)
  have hla := keys_len a
  have hlb := keys_len b
  simp only [elems_slice, nn_slice, List.length_map]
  generalize hx : keys a = xs at hla
  generalize hy : keys b = ys at hlb
  refine goS_rule (fun t : F104.S4 => ∃ i : Nat, t = ⟨0, xs.length, 0, ys.length, (i : Int), !xs.isEmpty, xs.map di, !ys.isEmpty, ys.map di⟩ ∧ i ≤ xs.length ∧ i ≤ ys.length ∧ ∀ j (h1 : j < xs.length) (h2 : j < ys.length), j < i → xs[j] = ys[j]) (fun t => xs.length - t.i7.toNat) (fun o => o = some (db (lessB a b))) ?_ _ _ ⟨0, by simp, by omega, by omega, by omega⟩ (by simp [FUEL]; omega)
  rintro _ rec ⟨i, rfl, hi, hi', hs⟩ hrec
  have hlex := lexB_drop hs hi hi'
  simp only [F104.st4]
  unfold lessB at hrec ⊢
  rw [hx, hy] at hrec ⊢
  have hend : (xs.drop i = [] ∨ ys.drop i = []) → (i = xs.length ∨ i = ys.length) → some (db (ltI (nI xs.length) (nI ys.length))) = some (db (lexB xs ys)) := by
    intro _ he
    rw [hlex]
    congr 2
    rw [Bool.eq_iff_iff, ltI_t, nI_eq, nI_eq]
    rcases he with rfl | rfl
    · rw [List.drop_length]
      simp only [lexB]
      rw [Bool.not_eq_true', List.isEmpty_eq_false_iff, ← List.length_pos_iff, List.length_drop]
      omega
    · rw [List.drop_length (l := ys)]
      by_cases hix : ys.length < xs.length
      · rw [List.drop_eq_getElem_cons hix]
        simp only [lexB]
        constructor
        · intro h; omega
        · intro h; simp at h
      · rw [List.drop_of_length_le (l := xs) (by omega)]
        simp only [lexB]
        constructor
        · intro h; omega
        · intro h; simp at h
  by_cases h1 : i < xs.length
  · by_cases h2 : i < ys.length
    · rw [List.drop_eq_getElem_cons h1, List.drop_eq_getElem_cons h2] at hlex
      simp only [lexB] at hlex
      refine ct (by simp; omega) (ct (by simp; omega) (ct (by simp; omega) (ct (by simp; omega) ?_)))
      simp only [Int.toNat_natCast, Nat.zero_add, ix_map h1, ix_map h2, i_int]
      by_cases h3 : xs[i] = ys[i]
      · refine cf (by simpa using h3) ?_
        have hadd : ad .i64 (i : Int) 1 = ((i + 1 : Nat) : Int) := by rw [ad64 (by omega) (by omega)]; rfl
        rw [hadd]
        refine hrec _ ⟨i + 1, rfl, by omega, by omega, ?_⟩ (by simp; omega)
        intro j hj1 hj2 hj
        by_cases hji : j = i
        · subst hji; exact h3
        · exact hs j hj1 hj2 (by omega)
      · refine ct (by simpa using h3) (ct (by simp; omega) (ct (by simp; omega) ?_))
        rw [if_neg h3] at hlex
        rw [hlex]
        rfl
    · refine ct (by simp; omega) (cf (by simp; omega) ?_)
      exact hend (.inr (List.drop_of_length_le (by omega))) (.inr (by omega))
  · refine cf (by simp; omega) ?_
    exact hend (.inl (List.drop_of_length_le (by omega))) (.inl (by omega))
end Go.AM.SZ
namespace Go.AM.SZ
open Go Go.AM
theorem ends_rune {s : ByteArray} {p : Nat} (h : p < s.size) :
    (byteAt s p = 32 ↔ (Utf8.decode s p).1 = 32) ∧ (byteAt s (p + (Utf8.decode s p).2 - 1) = 32 ↔ (Utf8.decode s p).1 = 32) ∧ p + (Utf8.decode s p).2 ≤ s.size := by
  have hl : (s.data.toList.drop p).length = s.size - p := by simp
  have hb : ∀ k, byteAt s (p + k) = (((s.data.toList.drop p).getD k 0).toNat : Int) := by
    intro k
    unfold byteAt
    simp [List.getD_eq_getElem?_getD]
  have b0 := hb 0
  have b1 := hb 1
  have b2 := hb 2
  have b3 := hb 3
  rw [Nat.add_zero] at b0
  have e := Lib.decodeL_N (s.data.toList.drop p)
  rw [dec_L, hl] at e
  rw [e]
  generalize ((s.data.toList.drop p).getD 0 0).toNat = c0 at *
  generalize ((s.data.toList.drop p).getD 1 0).toNat = c1 at *
  generalize ((s.data.toList.drop p).getD 2 0).toNat = c2 at *
  generalize ((s.data.toList.drop p).getD 3 0).toNat = c3 at *
  by_cases k0 : c0 < 128
  · have : Lib.decodeN (s.size - p) c0 c1 c2 c3 = (c0, 1) := by unfold Lib.decodeN; rw [if_pos k0]
    rw [this]
    dsimp only
    rw [show p + 1 - 1 = p by omega, b0]
    omega
  · rcases Lib.decodeN_shape (s.size - p) c0 c1 c2 c3 with ⟨c, e⟩ | ⟨d1, d2, d3, cv, e⟩ | ⟨d1, d2, d3, d4, cv, cs, e⟩ | ⟨d1, d2, d3, d4, d5, cv, cw, e⟩ | e
    · omega
    · rw [e]; dsimp only; rw [show p + 2 - 1 = p + 1 by omega, b1, b0]; omega
    · rw [e]; dsimp only; rw [show p + 3 - 1 = p + 2 by omega, b2, b0]; omega
    · rw [e]; dsimp only; rw [show p + 4 - 1 = p + 3 by omega, b3, b0]; omega
    · rw [e]; dsimp only; rw [show p + 1 - 1 = p by omega, b0]; omega
theorem key32 {s : ByteArray} {r : Nat × Nat} : keyR s r = 32 ↔ r.2 = 32 := by
  unfold keyR
  split
  · rename_i h
    have := byteAt_range s r.1
    omega
  · omega
theorem last_rune {s : ByteArray} : ∀ (n p : Nat), s.size - p ≤ n → p < s.size → ∃ q, q < s.size ∧ (runesFrom s p).getLast? = some (q, (Utf8.decode s q).1) ∧ q + (Utf8.decode s q).2 = s.size
  | 0, p, hn, hp => by omega
  | n + 1, p, hn, hp => by
    have h1 := decode_pos s p
    have h2 := (ends_rune hp).2.2
    rw [runesFrom_step hp]
    by_cases h : p + (Utf8.decode s p).2 < s.size
    · obtain ⟨q, a1, a2, a3⟩ := last_rune n _ (by omega) h
      exact ⟨q, a1, by rw [List.getLast?_cons, a2]; rfl, a3⟩
    · rw [runesFrom_end (by omega)]
      exact ⟨p, hp, rfl, by omega⟩
theorem odd_key {s : ByteArray} {r : Nat × Nat} (hr : r.2 ≤ 1114111) : (oddR (r.2 : Int) = false) ↔ ¬ (keyR s r < 32) ∧ keyR s r ≠ 47 ∧ ¬ (127 ≤ keyR s r ∧ keyR s r ≤ 159) ∧ keyR s r ≠ 65533 ∧ keyR s r < 1114112 := by
  have hb := byteAt_range s r.1
  have e : oddR (r.2 : Int) = false ↔ ¬ ((r.2 : Int) < 32) ∧ (r.2 : Int) ≠ 47 ∧ ¬ (127 ≤ (r.2 : Int) ∧ (r.2 : Int) ≤ 159) ∧ (r.2 : Int) ≠ 65533 := by
    simp [oddR]
    omega
  rw [e]
  unfold keyR
  split <;> omega
theorem rune_top {s : ByteArray} : ∀ (n p : Nat), s.size - p ≤ n → ∀ r ∈ runesFrom s p, r.2 ≤ 1114111
  | 0, p, hn, r, hr => by rw [runesFrom_end (by omega)] at hr; simp at hr
  | n + 1, p, hn, r, hr => by
    by_cases h : p < s.size
    · have h1 := decode_pos s p
      rw [runesFrom_step h] at hr
      rcases List.mem_cons.1 hr with rfl | hr
      · exact dec_top s p
      · exact rune_top n _ (by omega) r hr
    · rw [runesFrom_end (by omega)] at hr; simp at hr
theorem valid_ref (s : ByteArray) (hs : s.size ≤ 1048576) : F51.s FUEL s = some (db (nameB s)) := by
  unfold F51.s
  have hlen := runes_len s
  have hR : runes s = runesFrom s 0 := rfl
  have hK : (keys s).length = (runes s).length := by simp [keys]
  refine bdS (runes_ref s hs) ?_
  simp only [elems_slice, nn_slice, List.length_map]
  rw [hK]
  unfold nameB
  by_cases h1 : 0 < (runes s).length
  · have hsz : 0 < s.size := by omega
    rw [decide_eq_true h1, Bool.true_and]
    refine cf (by simp; omega) ?_
    by_cases h2 : (runes s).length ≤ 24
    · rw [decide_eq_true h2, Bool.true_and]
      refine cf (by simp; omega) (ct (by simp; omega) ?_)
      have hk0 : 0 < (keys s).length := by omega
      have hkl : (keys s).length - 1 < (keys s).length := by omega
      have hsb : sb .i64 (nI (runes s).length) 1 = (((keys s).length - 1 : Nat) : Int) := by rw [nI_eq, sb64 (by omega) (by omega)]; omega
      rw [hsb, ix_map hk0, Int.toNat_natCast, Nat.zero_add, ix_map hkl]
      have first : (keys s)[0] = 32 ↔ byteAt s 0 = 32 := by
        have e : (keys s)[0] = keyR s (0, (Utf8.decode s 0).1) := by
          have : keys s = keyR s (0, (Utf8.decode s 0).1) :: (runesFrom s (0 + (Utf8.decode s 0).2)).map (keyR s) := by unfold keys; rw [hR, runesFrom_step hsz]; rfl
          simp only [this, List.getElem_cons_zero]
        rw [e, key32, (ends_rune hsz).1]
      have last : (keys s)[(keys s).length - 1] = 32 ↔ byteAt s (s.size - 1) = 32 := by
        obtain ⟨q, a1, a2, a3⟩ := last_rune s.size 0 (by omega) hsz
        have e : (keys s)[(keys s).length - 1] = keyR s (q, (Utf8.decode s q).1) := by
          have h3 : (keys s).getLast? = some (keyR s (q, (Utf8.decode s q).1)) := by unfold keys; rw [hR, List.getLast?_map, a2]; rfl
          rw [List.getLast?_eq_getElem?, List.getElem?_eq_getElem hkl] at h3
          exact Option.some.inj h3
        have := (ends_rune a1).2.1
        rw [show q + (Utf8.decode s q).2 - 1 = s.size - 1 by omega] at this
        rw [e, key32, this]
      by_cases h3 : byteAt s 0 = 32
      · have hb : nameB s = false := by unfold nameB; simp [h3]
        unfold nameB at hb
        rw [decide_eq_true h1, Bool.true_and, decide_eq_true h2, Bool.true_and] at hb
        rw [hb]
        exact ct (by simp [first.2 h3]) rfl
      refine cf (by rw [i_int, eqI_f]; exact fun h => h3 (first.1 h)) (ct (by simp; omega) ?_)
      by_cases h4 : byteAt s (s.size - 1) = 32
      · have hb : nameB s = false := by unfold nameB; simp [h4]
        unfold nameB at hb
        rw [decide_eq_true h1, Bool.true_and, decide_eq_true h2, Bool.true_and] at hb
        rw [hb]
        exact ct (by simp [last.2 h4]) rfl
      refine cf (by rw [i_int, eqI_f]; exact fun h => h4 (last.1 h)) ?_
      rw [decide_eq_true h3, decide_eq_true h4, Bool.true_and, Bool.and_true]
      refine goS_rule (fun t : F51.S5 => ∃ k : Nat, t = ⟨0, (runes s).length, (k : Int), !(keys s).isEmpty, (keys s).map di⟩ ∧ k ≤ (runes s).length ∧ ∀ i (hi : i < (runes s).length), i < k → oddR ((runes s)[i].2 : Int) = false) (fun t => (runes s).length - t.i4.toNat) (fun o => o = some (db ((runes s).all fun r => !oddR r.2))) ?_ _ _ ⟨0, rfl, by omega, by omega⟩ (by simp [FUEL]; omega)
      rintro _ rec ⟨k, rfl, hk, hs5⟩ hrec
      simp only [F51.st5]
      by_cases h5 : k < (runes s).length
      · have hkk : k < (keys s).length := by omega
        have hadd : ad .i64 (k : Int) 1 = ((k + 1 : Nat) : Int) := by rw [ad64 (by omega) (by omega)]; rfl
        refine ct (by simp; omega) (ct (by simp; omega) ?_)
        rw [Int.toNat_natCast, Nat.zero_add, ix_map hkk, i_int, hadd]
        have hkey : (keys s)[k] = keyR s (runes s)[k] := by simp [keys]
        rw [hkey]
        have htop := rune_top s.size 0 (by omega) _ (show (runes s)[k] ∈ runesFrom s 0 from List.getElem_mem h5)
        have hodd := odd_key (s := s) htop
        generalize keyR s (runes s)[k] = key at hodd
        have no : oddR ((runes s)[k].2 : Int) = true → (some (db false) : Option D) = some (db ((runes s).all fun r => !oddR r.2)) := by
          intro h
          have : ((runes s).all fun r => !oddR r.2) = false := by
            rw [List.all_eq_false]
            exact ⟨_, List.getElem_mem h5, by simp [h]⟩
          rw [this]
        have nof : ¬ (¬ (key < 32) ∧ key ≠ 47 ∧ ¬ (127 ≤ key ∧ key ≤ 159) ∧ key ≠ 65533 ∧ key < 1114112) → oddR ((runes s)[k].2 : Int) = true := by
          intro h
          cases ho : oddR ((runes s)[k].2 : Int) with
          | true => rfl
          | false => exact absurd (hodd.1 ho) h
        have yes : (¬ (key < 32) ∧ key ≠ 47 ∧ ¬ (127 ≤ key ∧ key ≤ 159) ∧ key ≠ 65533 ∧ key < 1114112) → rec ⟨0, (runes s).length, ((k + 1 : Nat) : Int), !(keys s).isEmpty, (keys s).map di⟩ = some (db ((runes s).all fun r => !oddR r.2)) := by
          intro h
          refine hrec _ ⟨k + 1, rfl, by omega, fun i hi hik => ?_⟩ (by simp; omega)
          by_cases hkk : i = k
          · subst hkk; exact hodd.2 h
          · exact hs5 i hi (by omega)
        by_cases g1 : key < 32
        · exact ct (by simpa using g1) (no (nof (by omega)))
        refine cf (by simp; omega) ?_
        by_cases g2 : key = 47
        · exact ct (by simpa using g2) (no (nof (by omega)))
        refine cf (by simpa using g2) ?_
        by_cases g3 : 127 ≤ key
        · refine ct (by simpa using g3) ?_
          by_cases g4 : key ≤ 159
          · exact ct (by simpa using g4) (no (nof (by omega)))
          refine cf (by simp; omega) ?_
          by_cases g5 : key = 65533
          · exact ct (by simpa using g5) (no (nof (by omega)))
          refine cf (by simpa using g5) ?_
          by_cases g6 : 1114112 ≤ key
          · exact ct (by simpa using g6) (no (nof (by omega)))
          exact cf (by simp; omega) (yes (by omega))
        · refine cf (by simp; omega) ?_
          by_cases g5 : key = 65533
          · exact ct (by simpa using g5) (no (nof (by omega)))
          refine cf (by simpa using g5) ?_
          by_cases g6 : 1114112 ≤ key
          · exact ct (by simpa using g6) (no (nof (by omega)))
          exact cf (by simp; omega) (yes (by omega))
      · refine cf (by simp; omega) ?_
        have : ((runes s).all fun r => !oddR r.2) = true := by
          simp only [List.all_eq_true]
          intro r hr
          obtain ⟨i, hi, rfl⟩ := List.getElem_of_mem hr
          rw [hs5 i hi (by omega)]; rfl
        rw [this]
    · rw [decide_eq_false h2]
      exact ct (by simp; omega) rfl
  · rw [decide_eq_false h1]
    exact ct (by simp; omega) rfl
end Go.AM.SZ
namespace Go.AM.SZ
open Go Go.AM
theorem eraseIdx_map' {α β : Type} (g : α → β) : ∀ (l : List α) (i : Nat), (l.map g).eraseIdx i = (l.eraseIdx i).map g
  | [], _ => rfl
  | _ :: _, 0 => rfl
  | _ :: l, i + 1 => by simp [eraseIdx_map' g l i]
end Go.AM.SZ
namespace Go.AM.SZ
open Go Go.AM
def nnd (f : Fl) (b : Bool) : Fl := { f with nn := b }
theorem may_ref (f : Fl) (b : Bool) (floor : Int) : F54.s FUEL (nnd f b).enc floor = some (di (mayN f floor)) := by
  unfold F54.s mayN
  have e3 : ((nnd f b).enc.at 3).b = f.sealed := rfl
  have e4 : ((nnd f b).enc.at 4).i = f.until_ := rfl
  have e5 : ((nnd f b).enc.at 5).elems = f.holds.map dS := rfl
  rw [e3, e4, e5]
  cases hs : f.sealed with
  | false => exact ct rfl rfl
  | true =>
    refine cf rfl ?_
    rw [if_neg (by simp)]
    by_cases h1 : floor < f.until_
    · rw [if_pos h1]; exact ct (by simpa using h1) rfl
    rw [if_neg h1]
    refine cf (by simp; omega) ?_
    by_cases h2 : 0 < f.holds.length
    · rw [if_pos h2]; exact ct (by simp; omega) rfl
    · rw [if_neg h2]; exact cf (by simp only [gtI_f, nI_eq, List.length_map]; omega) rfl
theorem timely_iff {t : Int} : timely t = false ↔ (t < 0 ∨ 1099511627776 < t) := by
  simp [timely]; omega
theorem seal_ref (f : Fl) (b : Bool) (t : Int) : F92.s FUEL (nnd f b).enc t = some (.tup [(nnd (sealF f t).1 b).enc, di (sealF f t).2]) := by
  unfold F92.s sealF
  have e3 : ((nnd f b).enc.at 3).b = f.sealed := rfl
  rw [e3]
  cases hs : f.sealed with
  | true => exact ct rfl (by rw [if_pos rfl])
  | false =>
    rw [if_neg (by simp)]
    refine cf rfl ?_
    by_cases h1 : t < 0
    · rw [if_pos (timely_iff.2 (.inl h1))]; exact ct (by simpa using h1) rfl
    refine cf (by simp; omega) ?_
    by_cases h2 : 1099511627776 < t
    · rw [if_pos (timely_iff.2 (.inr h2))]; exact ct (by simpa using h2) rfl
    refine cf (by simp; omega) ?_
    rw [if_neg (by rw [timely_iff]; omega)]
    rfl
theorem extend_ref (f : Fl) (b : Bool) (t : Int) : F93.s FUEL (nnd f b).enc t = some (.tup [(nnd (extendF f t).1 b).enc, di (extendF f t).2]) := by
  unfold F93.s extendF
  have e3 : ((nnd f b).enc.at 3).b = f.sealed := rfl
  have e4 : ((nnd f b).enc.at 4).i = f.until_ := rfl
  rw [e3, e4]
  cases hs : f.sealed with
  | false => exact ct rfl (by rw [if_pos rfl])
  | true =>
    rw [if_neg (by simp)]
    refine cf rfl ?_
    by_cases h1 : t < 0
    · rw [if_pos (timely_iff.2 (.inl h1))]; exact ct (by simpa using h1) rfl
    refine cf (by simp; omega) ?_
    by_cases h2 : 1099511627776 < t
    · rw [if_pos (timely_iff.2 (.inr h2))]; exact ct (by simpa using h2) rfl
    refine cf (by simp; omega) ?_
    rw [if_neg (by rw [timely_iff]; omega)]
    by_cases h3 : t < f.until_
    · rw [if_pos h3]; exact ct (by simpa using h3) rfl
    rw [if_neg h3]
    exact cf (by simp; omega) (by rw [← hs]; rfl)
theorem append_ref (f : Fl) (b : Bool) (s : ByteArray) (h1 : f.data.size ≤ 1000000) (h2 : s.size ≤ 1000000) : F105.s FUEL (nnd f b).enc s = some (.tup [(nnd (appendF f s).1 b).enc, di (appendF f s).2]) := by
  unfold F105.s appendF
  have e3 : ((nnd f b).enc.at 3).b = f.sealed := rfl
  have e2 : ((nnd f b).enc.at 2).s = f.data := rfl
  rw [e3, e2]
  cases hs : f.sealed with
  | true => exact ct rfl (by rw [if_pos rfl])
  | false =>
    rw [if_neg (by simp)]
    refine cf rfl ?_
    by_cases h3 : s = bs []
    · rw [if_pos h3]; exact ct (by simpa using h3) rfl
    rw [if_neg h3]
    refine cf (by simpa using h3) ?_
    rw [ad64 (by simp; omega) (by simp; omega)]
    by_cases h4 : 600 < f.data.size + s.size
    · rw [if_pos h4]; exact ct (by simp; omega) rfl
    rw [if_neg h4]
    refine cf (by simp; omega) ?_
    refine bdS (x := dS (f.data ++ s)) (by unfold cat; rw [if_pos (by unfold maxInt; omega)]) (by rw [← hs]; rfl)
theorem read_ref (f : Fl) (b : Bool) (x y : Int) : F56.s FUEL (nnd f b).enc x y = some (.tup [dS (readF f x y).1, di (readF f x y).2]) := by
  unfold F56.s readF
  have e2 : ((nnd f b).enc.at 2).s = f.data := rfl
  rw [e2]
  by_cases h1 : x < 0
  · rw [if_pos h1]; exact ct (by simpa using h1) rfl
  rw [if_neg h1]
  refine cf (by simp; omega) ?_
  by_cases h2 : y < x
  · rw [if_pos h2]; exact ct (by simpa using h2) rfl
  rw [if_neg h2]
  refine cf (by simp; omega) ?_
  by_cases h3 : (f.data.size : Int) < y
  · rw [if_pos h3]; exact ct (by simpa using h3) rfl
  rw [if_neg h3]
  exact cf (by simp; omega) (ct (by simp; omega) rfl)
theorem place_ref (nn : Bool) (l : List ByteArray) (s : ByteArray) (hl : l.length ≤ 1000) : F135.s FUEL (dl nn (l.map dS)) s = some (di (findI (fun y => decide (s = y)) l)) := by
  unfold F135.s
  refine goS_rule (fun t : F135.S2 => ∃ k : Nat, t = ⟨dl nn (l.map dS), s, (k : Int)⟩ ∧ k ≤ l.length ∧ ∀ i (h : i < l.length), i < k → decide (s = l[i]) = false) (fun t => l.length - t.i3.toNat) (fun o => o = some (di (findI (fun y => decide (s = y)) l))) ?_ _ _ ⟨0, rfl, by omega, by omega⟩ (by simp [FUEL]; omega)
  rintro _ rec ⟨k, rfl, hk, hs⟩ hrec
  simp only [F135.st2]
  by_cases h1 : k < l.length
  · have hadd : ad .i64 (k : Int) 1 = ((k + 1 : Nat) : Int) := by rw [ad64 (by omega) (by omega)]; rfl
    refine ct (by simp; omega) (ct (by simp; omega) ?_)
    simp only [elems_slice, Int.toNat_natCast, ix_map h1, s_str]
    by_cases h2 : l[k] = s
    · refine ct (by simpa using h2) ?_
      rw [findI_some (findIdx_some_of h1 (fun i hi hik => hs i hi hik) (by simp [h2]))]
    · refine cf (by simpa using h2) ?_
      rw [hadd]
      refine hrec _ ⟨k + 1, rfl, by omega, fun i hi hik => ?_⟩ (by simp; omega)
      by_cases h3 : i = k
      · subst h3; simpa using fun h => h2 h.symm
      · exact hs i hi (by omega)
  · refine cf (by simp; omega) ?_
    rw [findI_none (findIdx_none_of fun i hi => hs i hi (by omega))]
theorem ins_take {l : List D} {i : Nat} {x : D} (hi : i ≤ l.length) : ((ap (((ap ((((l.drop 0).take (i - 0)).drop 0).take ((l.drop 0).take (i - 0)).length) [x]).drop 0).take (((l.drop 0).take (i - 0)).length + 1)) ((l.drop i).take (l.length - i))).drop 0).take ((((l.drop 0).take (i - 0)).length + 1) + ((l.drop i).take (l.length - i)).length) = l.take i ++ [x] ++ l.drop i := by
  have h1 : (l.drop i).take (l.length - i) = l.drop i := List.take_of_length_le (by simp)
  rw [h1]
  have h2 : ((l.drop 0).take (i - 0)) = l.take i := by simp
  rw [h2]
  have h3 : (((l.take i).drop 0).take (l.take i).length) = l.take i := by rw [List.drop_zero, List.take_length]
  rw [h3]
  unfold ap
  rw [List.drop_zero, List.drop_zero, List.take_of_length_le (by simp), List.take_of_length_le (by simp)]
theorem del_take {l : List D} {i : Nat} (hi : i < l.length) : ((ap ((((l.drop 0).take (i - 0)).drop 0).take ((l.drop 0).take (i - 0)).length) ((l.drop (i + 1)).take (l.length - (i + 1)))).drop 0).take (((l.drop 0).take (i - 0)).length + ((l.drop (i + 1)).take (l.length - (i + 1))).length) = l.eraseIdx i := by
  have h1 : (l.drop (i + 1)).take (l.length - (i + 1)) = l.drop (i + 1) := List.take_of_length_le (by simp)
  rw [h1]
  have h2 : ((l.drop 0).take (i - 0)) = l.take i := by simp
  rw [h2]
  have h3 : (((l.take i).drop 0).take (l.take i).length) = l.take i := by rw [List.drop_zero, List.take_length]
  rw [h3]
  unfold ap
  rw [List.drop_zero, List.take_of_length_le (by simp), List.eraseIdx_eq_take_drop_succ]
theorem hold_ref (f : Fl) (b : Bool) (s : ByteArray) (hs : s.size ≤ 1048576) (hh : f.holds.length ≤ 1000) (hsz : ∀ x ∈ f.holds, x.size ≤ 1048576) : ∃ c, F94.s FUEL (nnd f b).enc s = some (.tup [(nnd (holdF f s).1 c).enc, di (holdF f s).2]) := by
  unfold F94.s holdF
  have e3 : ((nnd f b).enc.at 3).b = f.sealed := rfl
  have e5 : (nnd f b).enc.at 5 = dl b (f.holds.map dS) := rfl
  rw [e3, e5]
  have hv := valid_ref s hs
  by_cases h1 : f.sealed = false
  · exact ⟨b, bdS hv (ct (by rw [h1]; rfl) (by rw [if_pos h1]))⟩
  by_cases h2 : nameB s = false
  · exact ⟨b, bdS hv (cf (by simpa using h1) (ct (by rw [h2]; rfl) (by rw [if_neg h1, if_pos h2])))⟩
  have hp := place_ref b f.holds s hh
  by_cases h3 : hasB f.holds s = true
  · exact ⟨b, bdS hv (cf (by simpa using h1) (cf (by simpa using h2) (bdS hp (ct (by rw [i_int, geI_t]; exact findI_nonneg.2 h3) (by rw [if_neg h1, if_neg h2, if_pos h3])))))⟩
  have h3' : ¬ 0 ≤ findI (fun y => decide (s = y)) f.holds := fun h => h3 (findI_nonneg.1 h)
  by_cases h4 : 4 ≤ f.holds.length
  · exact ⟨b, bdS hv (cf (by simpa using h1) (cf (by simpa using h2) (bdS hp (cf (by rw [i_int, geI_f]; omega) (ct (by simp; omega) (by rw [if_neg h1, if_neg h2, if_neg h3, if_pos h4]))))))⟩
  refine ⟨true, bdS hv (cf (by simpa using h1) (cf (by simpa using h2) (bdS hp (cf (by rw [i_int, geI_f]; omega) (cf (by simp; omega) ?_)))))⟩
  rw [if_neg h1, if_neg h2, if_neg h3, if_neg h4]
  have hel : ((nnd f b).enc.at 5).elems = f.holds.map dS := rfl
  have fin : ∀ i : Nat, i ≤ f.holds.length → insH s f.holds = f.holds.take i ++ [s] ++ f.holds.drop i →
      (cond (true && (leI 0 (i : Int)) && (leI (i : Int) (nI (f.holds.map dS).length)) && (leI (nI (f.holds.map dS).length) (nI (f.holds.map dS).length))) (cond (mx (((f.holds.map dS).drop 0).take ((i : Int).toNat - 0)).length) (cond (mx ((((f.holds.map dS).drop 0).take ((i : Int).toNat - 0)).length + 1)) (cond ((leI 0 (i : Int)) && (leI (i : Int) (nI (f.holds.map dS).length)) && (leI (nI (f.holds.map dS).length) (nI (f.holds.map dS).length)) && (leI (nI (f.holds.map dS).length) (nI (f.holds.map dS).length))) (cond (mx (((((f.holds.map dS).drop 0).take ((i : Int).toNat - 0)).length + 1) + (((f.holds.map dS).drop (i : Int).toNat).take ((f.holds.map dS).length - (i : Int).toNat)).length)) (some (D.tup [(da [((nnd f b).enc.at 0), ((nnd f b).enc.at 1), ((nnd f b).enc.at 2), ((nnd f b).enc.at 3), ((nnd f b).enc.at 4), (dl (((!(((f.holds.map dS).drop 0).take ((i : Int).toNat - 0)).isEmpty) || true) || (!(((f.holds.map dS).drop (i : Int).toNat).take ((f.holds.map dS).length - (i : Int).toNat)).isEmpty)) (((ap (((ap (((((f.holds.map dS).drop 0).take ((i : Int).toNat - 0)).drop 0).take (((f.holds.map dS).drop 0).take ((i : Int).toNat - 0)).length) [(dS s)]).drop 0).take ((((f.holds.map dS).drop 0).take ((i : Int).toNat - 0)).length + 1)) (((f.holds.map dS).drop (i : Int).toNat).take ((f.holds.map dS).length - (i : Int).toNat))).drop 0).take (((((f.holds.map dS).drop 0).take ((i : Int).toNat - 0)).length + 1) + (((f.holds.map dS).drop (i : Int).toNat).take ((f.holds.map dS).length - (i : Int).toNat)).length)))]), (di 0)])) none) none) none) none) none) =
      some (.tup [(nnd { f with nn := true, holds := insH s f.holds } true).enc, di 0]) := by
    intro i hi hins
    have hl : (f.holds.map dS).length = f.holds.length := List.length_map _
    rw [Int.toNat_natCast, ins_take (by rw [hl]; exact hi)]
    refine ct (by simp; omega) (ct (by simp; omega) (ct (by simp; omega) (ct (by simp; omega) (ct (by simp; omega) ?_))))
    have : (f.holds.map dS).take i ++ [dS s] ++ (f.holds.map dS).drop i = (insH s f.holds).map dS := by rw [hins]; simp
    rw [this, Bool.or_true, Bool.true_or]
    rfl
  refine goS_rule (fun t : F94.S11 => ∃ k : Nat, t = ⟨s, (k : Int), (nnd f b).enc, 0, bs [], bs [], false, 0, false, []⟩ ∧ k ≤ f.holds.length ∧ ∀ i (h : i < f.holds.length), i < k → (!lessB f.holds[i] s) = false) (fun t => f.holds.length - t.i4.toNat) (fun o => o = some (.tup [(nnd { f with nn := true, holds := insH s f.holds } true).enc, di 0])) ?_ _ _ ⟨0, rfl, by omega, by omega⟩ (by simp [FUEL]; omega)
  rintro _ rec ⟨k, rfl, hk, hlt⟩ hrec
  simp only [F94.st11]
  rw [hel]
  by_cases g1 : k < f.holds.length
  · have hadd : ad .i64 (k : Int) 1 = ((k + 1 : Nat) : Int) := by rw [ad64 (by omega) (by omega)]; rfl
    refine ct (by simp; omega) (ct (by simp; omega) ?_)
    rw [Int.toNat_natCast, ix_map g1, s_str, hadd]
    refine bdS (less_ref _ _ (hsz _ (List.getElem_mem g1)) hs) ?_
    cases hls : lessB f.holds[k] s with
    | false =>
      refine ct rfl ?_
      refine fin k (by omega) ?_
      unfold insH
      rw [findIdx_some_of g1 hlt (by rw [hls]; rfl)]
    | true =>
      refine cf rfl ?_
      refine hrec _ ⟨k + 1, rfl, by omega, fun i hi hik => ?_⟩ (by simp; omega)
      by_cases h3 : i = k
      · subst h3; rw [hls]; rfl
      · exact hlt i hi (by omega)
  · refine cf (by simp; omega) ?_
    refine fin k (by omega) ?_
    unfold insH
    rw [findIdx_none_of fun i hi => hlt i hi (by omega)]
    have : k = f.holds.length := by omega
    subst this
    simp
theorem release_ref (f : Fl) (b : Bool) (s : ByteArray) (hh : f.holds.length ≤ 1000) : ∃ c, F95.s FUEL (nnd f b).enc s = some (.tup [(nnd (releaseF f s).1 c).enc, di (releaseF f s).2]) := by
  unfold F95.s releaseF
  have e5 : (nnd f b).enc.at 5 = dl b (f.holds.map dS) := rfl
  rw [e5]
  have hp := place_ref b f.holds s hh
  cases hx : f.holds.findIdx? (fun y => decide (s = y)) with
  | none =>
    rw [findI_none hx] at hp
    exact ⟨b, bdS hp (ct (by simp) rfl)⟩
  | some i =>
    rw [findI_some hx] at hp
    have hi := findIdx_lt hx
    have hl : (f.holds.map dS).length = f.holds.length := List.length_map _
    have hadd : ad .i64 (i : Int) 1 = ((i + 1 : Nat) : Int) := by rw [ad64 (by omega) (by omega)]; rfl
    refine ⟨((!(((f.holds.map dS).drop 0).take (i - 0)).isEmpty) || (!(((f.holds.map dS).drop (i + 1)).take ((f.holds.map dS).length - (i + 1))).isEmpty)), bdS hp (cf (by simp) ?_)⟩
    simp only [i_int, elems_slice, hadd, Int.toNat_natCast]
    rw [del_take (by rw [hl]; exact hi), eraseIdx_map']
    exact ct (by simp; omega) (ct (by simp; omega) (ct (by simp; omega) (ct (by simp; omega) rfl)))
end Go.AM.SZ
namespace Go.AM.SZ
open Go Go.AM
namespace F28
def createR (M : Nat) (p0 p1 r1 : D) : Option D :=
  (bd (F51.s FUEL (p1.at 1).s) fun r2 => (cond (!r2.b) (some (D.tup [p0, (da [(di 2), (di 0), (dS (bs [])), (da [(di 0), (dS (bs [])), (dS (bs [])), (db false), (di 0), (dl false [])]), (dl false [])]), (dl false [])])) (cond (geI r1.i 0) (some (D.tup [p0, (da [(di 4), (di 0), (dS (bs [])), (da [(di 0), (dS (bs [])), (dS (bs [])), (db false), (di 0), (dl false [])]), (dl false [])]), (dl false [])])) (cond (geI (nI (p0.at 0).elems.length) 12) (some (D.tup [p0, (da [(di 10), (di 0), (dS (bs [])), (da [(di 0), (dS (bs [])), (dS (bs [])), (db false), (di 0), (dl false [])]), (dl false [])]), (dl false [])])) (cond (geI (p0.at 1).i 1099511627776) (some (D.tup [p0, (da [(di 10), (di 0), (dS (bs [])), (da [(di 0), (dS (bs [])), (dS (bs [])), (db false), (di 0), (dl false [])]), (dl false [])]), (dl false [])])) (bd (F52.s FUEL (ad .i64 (p0.at 1).i 1) (p1.at 1).s) fun r3 => (cond (neI (r3.at 1).i 0) (some (D.tup [p0, (da [(r3.at 1), (di 0), (dS (bs [])), (da [(di 0), (dS (bs [])), (dS (bs [])), (db false), (di 0), (dl false [])]), (dl false [])]), (dl false [])])) (cond (mx (p0.at 0).elems.length) (cond (mx ((p0.at 0).elems.length + 1)) (some (D.tup [(da [(dl ((!(p0.at 0).elems.isEmpty) || true) (((ap (((p0.at 0).elems.drop 0).take (p0.at 0).elems.length) [(r3.at 0)]).drop 0).take ((p0.at 0).elems.length + 1))), ((r3.at 0).at 0), (p0.at 2)]), (da [(di 0), ((r3.at 0).at 0), (dS (bs [])), (da [(di 0), (dS (bs [])), (dS (bs [])), (db false), (di 0), (dl false [])]), (dl false [])]), (dl true [(da [(di 0), ((r3.at 0).at 0), ((r3.at 0).at 1), (di 0), (di 0), (da (rp 32 (D.int .u8 0)))])])])) none) none))))))))
def tickR (M : Nat) (p0 p1 r1 : D) : Option D :=
  (bd (F53.s FUEL (p0.at 2).i (p1.at 3).i) fun r4 => (cond (eqI ((D.agg (p0.parts.set 2 r4)).at 2).i (p0.at 2).i) (some (D.tup [(D.agg (p0.parts.set 2 r4)), (da [(di 0), (p0.at 2), (dS (bs [])), (da [(di 0), (dS (bs [])), (dS (bs [])), (db false), (di 0), (dl false [])]), (dl false [])]), (dl false [])])) (some (D.tup [(D.agg (p0.parts.set 2 r4)), (da [(di 0), ((D.agg (p0.parts.set 2 r4)).at 2), (dS (bs [])), (da [(di 0), (dS (bs [])), (dS (bs [])), (db false), (di 0), (dl false [])]), (dl false [])]), (dl true [(da [(di 7), (di 0), (dS (bs [])), ((D.agg (p0.parts.set 2 r4)).at 2), (di 0), (da (rp 32 (D.int .u8 0)))])])]))))
def sweepR (M : Nat) (p0 p1 r1 : D) : Option D :=
  (goS (st29 M) M ⟨0, 0, 0, 0, 0, p0, p1, false, [], 0, 0, 0, 0, (bs []), 0, (bs []), (bs []), false, 0, false, [], false, [], false, [], false, []⟩ fun x => match x with | .e0 n5 n6 n7 n8 i9 d10 d11 b12 l13 i14 i15 i16 i17 s18 i19 s20 s21 b22 i23 b24 l25 b26 l27 b28 l29 b30 l31 => (some (D.tup [(da [(dl b30 ((l31.drop n5).take n6)), (d10.at 1), (d10.at 2)]), (da [(di 0), (di (nI n8)), (dS (bs [])), (da [(di 0), (dS (bs [])), (dS (bs [])), (db false), (di 0), (dl false [])]), (dl false [])]), (dl b28 ((l29.drop n7).take n8))])))
def listR (M : Nat) (p0 p1 r1 : D) : Option D :=
  (bd (F55.s FUEL p0) fun r33 => (some (D.tup [p0, (da [(di 0), (di 0), (dS (bs [])), (da [(di 0), (dS (bs [])), (dS (bs [])), (db false), (di 0), (dl false [])]), (dl r33.nn ((r33.elems.drop 0).take r33.elems.length))]), (dl false [])])))
def tailR (M : Nat) (p0 p1 r1 : D) : Option D :=
  (cond (ltI r1.i 0) (some (D.tup [p0, (da [(di 3), (di 0), (dS (bs [])), (da [(di 0), (dS (bs [])), (dS (bs [])), (db false), (di 0), (dl false [])]), (dl false [])]), (dl false [])])) (cond (inb r1.i (p0.at 0).elems.length) (cond (eqI (p1.at 0).i 9) (bd (F56.s FUEL (ix (p0.at 0).elems (r1.i).toNat) (p1.at 4).i (p1.at 5).i) fun r34 => (some (D.tup [p0, (da [(r34.at 1), (di 0), (r34.at 0), (da [(di 0), (dS (bs [])), (dS (bs [])), (db false), (di 0), (dl false [])]), (dl false [])]), (dl false [])]))) (cond (eqI (p1.at 0).i 10) (some (D.tup [p0, (da [(di 0), (di 0), (dS (bs [])), (D.agg ((ix (p0.at 0).elems (r1.i).toNat).parts.set 2 (dS (bs [])))), (dl false [])]), (dl false [])])) (bd (F57.s FUEL (ix (p0.at 0).elems (r1.i).toNat) p1 (p0.at 2).i) fun r35 => (cond (neI (r35.at 2).i 0) (some (D.tup [p0, (da [(r35.at 2), (di 0), (dS (bs [])), (da [(di 0), (dS (bs [])), (dS (bs [])), (db false), (di 0), (dl false [])]), (dl false [])]), (dl false [])])) (cond (eqI (p1.at 0).i 6) (bd (F58.s FUEL p0 r1.i (r35.at 0) (eqI (p1.at 0).i 6)) fun r36 => (some (D.tup [r36, (da [(di 0), ((ix (p0.at 0).elems (r1.i).toNat).at 0), (dS (bs [])), (da [(di 0), (dS (bs [])), (dS (bs [])), (db false), (di 0), (dl false [])]), (dl false [])]), (dl true [(r35.at 1)])]))) (bd (F58.s FUEL p0 r1.i (r35.at 0) (eqI (p1.at 0).i 6)) fun r37 => (some (D.tup [r37, (da [(di 0), (di (nI ((r35.at 0).at 2).s.size)), (dS (bs [])), (da [(di 0), (dS (bs [])), (dS (bs [])), (db false), (di 0), (dl false [])]), (dl false [])]), (dl true [(r35.at 1)])])))))))) none))
end F28
end Go.AM.SZ
namespace Go.AM.SZ
open Go Go.AM
def u32 (x : Int) : Prop := 0 ≤ x ∧ x < 4294967296
theorem wrap32 (n : Int) : IntKind.wrap .u32 n = n % 4294967296 := by simp [IntKind.wrap, IntKind.signed, IntKind.bits]
theorem ad32 (a b : Int) : ad .u32 a b = (a + b) % 4294967296 := wrap32 _
theorem sb32 (a b : Int) : sb .u32 a b = (a - b) % 4294967296 := wrap32 _
theorem ml32 (a b : Int) : ml .u32 a b = (a * b) % 4294967296 := wrap32 _
theorem cv32 (a : Int) : cv .u32 a = a % 4294967296 := wrap32 _
theorem wrap_u32 (n : Int) : u32 (IntKind.wrap .u32 n) := by rw [wrap32]; unfold u32; omega
theorem wrap_id {n : Int} (h : u32 n) : IntKind.wrap .u32 n = n := by rw [wrap32]; unfold u32 at h; omega
def rr (x : Nat) (n : Nat) : Nat := x / 2 ^ n + (x % 2 ^ n) * 2 ^ (32 - n)
def rI (x : Int) (n : Nat) : Int := (rr x.toNat n : Int)
theorem rr_zero (x : Nat) : rr x 0 = x := by simp [rr, Nat.mod_one]
theorem rr_lt {x n : Nat} (hx : x < 4294967296) (hn : n ≤ 32) : rr x n < 4294967296 := by
  have h1 : 2 ^ n * 2 ^ (32 - n) = 4294967296 := by rw [← Nat.pow_add, show n + (32 - n) = 32 by omega]
  have hp : 0 < 2 ^ n := Nat.two_pow_pos n
  have h2 : x / 2 ^ n < 2 ^ (32 - n) := by rw [Nat.div_lt_iff_lt_mul hp, Nat.mul_comm]; omega
  have h3 : (x % 2 ^ n) < 2 ^ n := Nat.mod_lt _ hp
  have h4 : (x % 2 ^ n + 1) * 2 ^ (32 - n) ≤ 2 ^ n * 2 ^ (32 - n) := Nat.mul_le_mul_right _ h3
  rw [Nat.add_mul, Nat.one_mul, h1] at h4
  unfold rr
  omega
theorem rr_step {x n : Nat} (hn : n ≤ 31) : rr x (n + 1) = rr x n / 2 + rr x n % 2 * 2147483648 := by
  have hp : 0 < 2 ^ n := Nat.two_pow_pos n
  have e32 : 2 ^ (32 - n) = 2 * 2 ^ (31 - n) := by rw [show 32 - n = (31 - n) + 1 by omega, Nat.pow_succ]; omega
  have e31 : 2 ^ n * 2 ^ (31 - n) = 2147483648 := by rw [← Nat.pow_add, show n + (31 - n) = 31 by omega]
  have d : x / 2 ^ (n + 1) = x / 2 ^ n / 2 := by rw [Nat.pow_succ, Nat.div_div_eq_div_mul]
  have m : x % 2 ^ (n + 1) = x % 2 ^ n + 2 ^ n * (x / 2 ^ n % 2) := by rw [Nat.pow_succ, Nat.mod_mul]
  unfold rr
  rw [d, m, e32, show 32 - (n + 1) = 31 - n by omega, Nat.add_mul, Nat.mul_right_comm, e31]
  generalize x / 2 ^ n = q
  generalize x % 2 ^ n = r
  have e : r * (2 * 2 ^ (31 - n)) = 2 * (r * 2 ^ (31 - n)) := by rw [Nat.mul_left_comm]
  rw [e]
  generalize r * 2 ^ (31 - n) = z
  omega
theorem or_add {a b n : Nat} (hb : b < 2 ^ n) : a * 2 ^ n ||| b = a * 2 ^ n + b := by
  rw [← Nat.shiftLeft_eq, Nat.shiftLeft_add_eq_or_of_lt hb]
theorem ofInt_nat {a : Nat} (ha : a < 4294967296) : (BitVec.ofInt 32 (a : Int)).toNat = a := by
  rw [BitVec.toNat_ofInt]; omega
theorem orI32 {a b : Nat} (ha : a < 4294967296) (hb : b < 4294967296) : orI .u32 (a : Int) (b : Int) = ((a ||| b : Nat) : Int) := by
  unfold orI
  show IntKind.wrap .u32 ((BitVec.ofInt 32 (a : Int) ||| BitVec.ofInt 32 (b : Int)).toNat : Int) = _
  rw [BitVec.toNat_or, ofInt_nat ha, ofInt_nat hb, wrap_id]
  have : a ||| b < 2 ^ 32 := Nat.or_lt_two_pow ha hb
  unfold u32; omega
theorem not32 {e : Int} (h : u32 e) : notI .u32 e = sb .u32 4294967295 e := by
  obtain ⟨a, rfl⟩ : ∃ a : Nat, e = a := ⟨e.toNat, by unfold u32 at h; omega⟩
  have ha : a < 4294967296 := by unfold u32 at h; omega
  unfold notI
  show IntKind.wrap .u32 ((BitVec.ofInt 32 4294967295 ^^^ BitVec.ofInt 32 (a : Int)).toNat : Int) = _
  have e1 : (BitVec.ofInt 32 4294967295 ^^^ BitVec.ofInt 32 (a : Int)).toNat = 4294967295 - a := by
    have : BitVec.ofInt 32 4294967295 = BitVec.allOnes 32 := by decide
    rw [this, BitVec.allOnes_xor, BitVec.toNat_not, ofInt_nat ha]
  rw [e1, wrap32, sb32]
  omega
theorem right_real {x : Int} (hx : u32 x) (n : Int) (k : Nat) (hk : 1 ≤ k ∧ k ≤ 31) (hn : andI .u64 (cv .u64 (sb .i64 0 n)) 31 = ((32 - k : Nat) : Int)) : F133.s FUEL x n = some (D.int .u32 (rI x k)) := by
  obtain ⟨a, rfl⟩ : ∃ a : Nat, x = a := ⟨x.toNat, by unfold u32 at hx; omega⟩
  have ha : a < 4294967296 := by unfold u32 at hx; omega
  unfold F133.s F146.s
  rw [hn]
  have hs : sb .u64 32 ((32 - k : Nat) : Int) = (k : Int) := by
    have : ∀ m : Int, IntKind.wrap .u64 m = m % 18446744073709551616 := fun m => by simp [IntKind.wrap, IntKind.signed, IntKind.bits]
    unfold sb
    rw [this]
    omega
  rw [hs, if_neg (by omega), bd_some, if_neg (by omega), bd_some, bd_some, Int.toNat_natCast, Int.toNat_natCast]
  have hp : 0 < 2 ^ k := Nat.two_pow_pos k
  have h1 : 2 ^ k * 2 ^ (32 - k) = 4294967296 := by rw [← Nat.pow_add, show k + (32 - k) = 32 by omega]
  have h2 : a / 2 ^ k < 2 ^ (32 - k) := by rw [Nat.div_lt_iff_lt_mul hp, Nat.mul_comm]; omega
  have e1 : shlI .u32 (a : Int) (32 - k) = ((a % 2 ^ k * 2 ^ (32 - k) : Nat) : Int) := by
    unfold shlI
    rw [show min (32 - k) (IntKind.bits .u32) = 32 - k from Nat.min_eq_left (by show 32 - k ≤ 32; omega), wrap32]
    have : ((a : Int) * 2 ^ (32 - k)) % 4294967296 = ((a * 2 ^ (32 - k) % (2 ^ k * 2 ^ (32 - k)) : Nat) : Int) := by rw [h1]; simp
    rw [this, Nat.mul_mod_mul_right]
  have e2 : shrI .u32 (a : Int) k = ((a / 2 ^ k : Nat) : Int) := by
    unfold shrI
    rw [show min k (IntKind.bits .u32) = k from Nat.min_eq_left (by show k ≤ 32; omega), Int.fdiv_eq_ediv_of_nonneg _ (by exact Int.le_of_lt (by exact_mod_cast hp))]
    simp
  have h3 : a % 2 ^ k * 2 ^ (32 - k) < 4294967296 := by
    have : (a % 2 ^ k) < 2 ^ k := Nat.mod_lt _ hp
    have : (a % 2 ^ k + 1) * 2 ^ (32 - k) ≤ 2 ^ k * 2 ^ (32 - k) := Nat.mul_le_mul_right _ this
    rw [Nat.add_mul, Nat.one_mul, h1] at this
    have := Nat.two_pow_pos (32 - k)
    omega
  have h4 : a / 2 ^ k < 4294967296 := Nat.lt_of_le_of_lt (Nat.div_le_self _ _) ha
  show some (D.int .u32 (orI .u32 (shlI .u32 (a : Int) (32 - k)) (shrI .u32 (a : Int) k))) = _
  rw [e1, e2, orI32 h3 h4, or_add h2, Nat.add_comm]
  rfl
theorem quo32 {a : Nat} (b : Nat) (ha : a < 4294967296) : quoI .u32 (a : Int) (b : Int) = ((a / b : Nat) : Int) := by
  unfold quoI
  have : (a : Int).tdiv (b : Int) = ((a / b : Nat) : Int) := rfl
  have h := Nat.div_le_self a b
  rw [this, wrap_id]
  generalize a / b = q at h
  unfold u32; omega
theorem right_ref {x : Int} (hx : u32 x) (n : Nat) (hn : n ≤ 32) : F99.s FUEL x (n : Int) = some (D.int .u32 (rI x n)) := by
  obtain ⟨a, rfl⟩ : ∃ a : Nat, x = a := ⟨x.toNat, by unfold u32 at hx; omega⟩
  have ha : a < 4294967296 := by unfold u32 at hx; omega
  unfold F99.s
  refine goS_rule (fun t : F99.S2 => ∃ k : Nat, t = ⟨(rr a k : Int), (n : Int), (k : Int)⟩ ∧ k ≤ n) (fun t => n - t.i3.toNat) (fun o => o = some (D.int .u32 (rI a n))) ?_ _ _ ⟨0, by rw [rr_zero]; rfl, by omega⟩ (by simp [FUEL]; omega)
  rintro _ rec ⟨k, rfl, hk⟩ hrec
  simp only [F99.st2]
  by_cases h1 : k < n
  · have hlt := rr_lt ha (n := k) (by omega)
    have hst := rr_step (x := a) (n := k) (by omega)
    have hadd : ad .i64 (k : Int) 1 = ((k + 1 : Nat) : Int) := by rw [ad64 (by omega) (by omega)]; rfl
    have hr : remI (rr a k : Int) 2 = ((rr a k % 2 : Nat) : Int) := rfl
    have hq : quoI .u32 (rr a k : Int) 2 = ((rr a k / 2 : Nat) : Int) := quo32 2 hlt
    refine ct (by simp; omega) ?_
    rw [hr, hq, hadd]
    by_cases h2 : rr a k % 2 = 1
    · refine ct (by simp; omega) ?_
      have : ad .u32 ((rr a k / 2 : Nat) : Int) 2147483648 = (rr a (k + 1) : Int) := by rw [ad32, hst, h2]; omega
      rw [this]
      exact hrec _ ⟨k + 1, rfl, by omega⟩ (by simp; omega)
    · refine cf (by simp; omega) ?_
      have : ((rr a k / 2 : Nat) : Int) = (rr a (k + 1) : Int) := by rw [hst]; omega
      rw [this]
      exact hrec _ ⟨k + 1, rfl, by omega⟩ (by simp; omega)
  · refine cf (by simp; omega) ?_
    have : k = n := by omega
    subst this
    rfl
theorem shift_ref {x : Int} (hx : u32 x) (n : Nat) (hn : n ≤ 32) : F100.s FUEL x (n : Int) = some (D.int .u32 ((x.toNat / 2 ^ n : Nat) : Int)) := by
  obtain ⟨a, rfl⟩ : ∃ a : Nat, x = a := ⟨x.toNat, by unfold u32 at hx; omega⟩
  have ha : a < 4294967296 := by unfold u32 at hx; omega
  unfold F100.s
  refine goS_rule (fun t : F100.S2 => ∃ k : Nat, t = ⟨((a / 2 ^ k : Nat) : Int), (n : Int), (k : Int)⟩ ∧ k ≤ n) (fun t => n - t.i3.toNat) (fun o => o = some (D.int .u32 (((a : Int).toNat / 2 ^ n : Nat) : Int))) ?_ _ _ ⟨0, by simp, by omega⟩ (by simp [FUEL]; omega)
  rintro _ rec ⟨k, rfl, hk⟩ hrec
  simp only [F100.st2]
  by_cases h1 : k < n
  · have hlt : a / 2 ^ k < 4294967296 := Nat.lt_of_le_of_lt (Nat.div_le_self _ _) ha
    have hadd : ad .i64 (k : Int) 1 = ((k + 1 : Nat) : Int) := by rw [ad64 (by omega) (by omega)]; rfl
    have hq : quoI .u32 ((a / 2 ^ k : Nat) : Int) 2 = ((a / 2 ^ k / 2 : Nat) : Int) := quo32 2 hlt
    refine ct (by simp; omega) ?_
    rw [hq, hadd, Nat.div_div_eq_div_mul, ← Nat.pow_succ]
    exact hrec _ ⟨k + 1, rfl, by omega⟩ (by simp; omega)
  · refine cf (by simp; omega) ?_
    have : k = n := by omega
    subst this
    rfl
theorem shr_real {x : Int} (hx : u32 x) (n : Nat) (hn : n ≤ 32) : shrI .u32 x n = ((x.toNat / 2 ^ n : Nat) : Int) := by
  obtain ⟨a, rfl⟩ : ∃ a : Nat, x = a := ⟨x.toNat, by unfold u32 at hx; omega⟩
  have hp : 0 < 2 ^ n := Nat.two_pow_pos n
  unfold shrI
  rw [show min n (IntKind.bits .u32) = n from Nat.min_eq_left (by show n ≤ 32; omega), Int.fdiv_eq_ediv_of_nonneg _ (by exact Int.le_of_lt (by exact_mod_cast hp))]
  simp
end Go.AM.SZ
namespace Go.AM.SZ
open Go Go.AM
def S0 (x : Int) : Int := xorI .u32 (xorI .u32 (rI x 7) (rI x 18)) ((x.toNat / 2 ^ 3 : Nat) : Int)
def S1 (y : Int) : Int := xorI .u32 (xorI .u32 (rI y 17) (rI y 19)) ((y.toNat / 2 ^ 10 : Nat) : Int)
def wv (b : Nat → Int) (t : Nat) (w : List Int) : Int :=
  if t < 16 then b (4 * t) * 16777216 + b (4 * t + 1) * 65536 + b (4 * t + 2) * 256 + b (4 * t + 3)
  else (w.getD (t - 16) 0 + S0 (w.getD (t - 15) 0) + w.getD (t - 7) 0 + S1 (w.getD (t - 2) 0)) % 4294967296
def wl (b : Nat → Int) : Nat → List Int
  | 0 => List.replicate 64 0
  | t + 1 => (wl b t).set t (wv b t (wl b t))
def T1 (k w : Int) (v : List Int) : Int :=
  ad .u32 (ad .u32 (ad .u32 (ad .u32 (v.getD 7 0) (xorI .u32 (xorI .u32 (rI (v.getD 4 0) 6) (rI (v.getD 4 0) 11)) (rI (v.getD 4 0) 25)))
    (xorI .u32 (andI .u32 (v.getD 4 0) (v.getD 5 0)) (andI .u32 (sb .u32 4294967295 (v.getD 4 0)) (v.getD 6 0)))) k) w
def T2 (v : List Int) : Int :=
  ad .u32 (xorI .u32 (xorI .u32 (rI (v.getD 0 0) 2) (rI (v.getD 0 0) 13)) (rI (v.getD 0 0) 22))
    (xorI .u32 (xorI .u32 (andI .u32 (v.getD 0 0) (v.getD 1 0)) (andI .u32 (v.getD 0 0) (v.getD 2 0))) (andI .u32 (v.getD 1 0) (v.getD 2 0)))
def rnd (k w : Int) (v : List Int) : List Int :=
  [ad .u32 (T1 k w v) (T2 v), v.getD 0 0, v.getD 1 0, v.getD 2 0, ad .u32 (v.getD 3 0) (T1 k w v), v.getD 4 0, v.getD 5 0, v.getD 6 0]
def vl (h w : List Int) : Nat → List Int
  | 0 => h
  | t + 1 => rnd (K0.getD t 0) (w.getD t 0) (vl h w t)
def al (h v : List Int) : Nat → List Int
  | 0 => h
  | m + 1 => (al h v m).set m (ad .u32 ((al h v m).getD m 0) (v.getD m 0))
def mixV (h : List Int) (b : Nat → Int) : List Int := al h (vl h (wl b 64) 64) 8
def hv (t : ByteArray) : Nat → List Int
  | 0 => H0
  | m + 1 => mixV (hv t m) fun j => byteAt t (64 * m + j)
def ob (h : List Int) (k : Nat) : Int := (((h.getD (k / 4) 0).toNat / 256 ^ (3 - k % 4) % 256 : Nat) : Int)
def ol (h : List Int) : Nat → List Int
  | 0 => zeros
  | k + 1 => (ol h k).set k (ob h k)
def be : Nat → Nat → List D
  | 0, _ => []
  | m + 1, n => D.int .u8 ((n / 256 ^ m % 256 : Nat) : Int) :: be m n
def padZ (n : Nat) : Nat := (119 - n % 64) % 64
def padL (b : ByteArray) : List D := (bytesOf b ++ [D.int .u8 128] ++ List.replicate (padZ b.size) (D.int .u8 0)) ++ be 8 (8 * b.size)
def padV (b : ByteArray) : ByteArray := ofBytes (padL b)
def shaV (b : ByteArray) : List Int := ol (hv (padV b) ((padV b).size / 64)) 32
theorem wl_len (b : Nat → Int) : ∀ t, (wl b t).length = 64
  | 0 => by simp [wl]
  | t + 1 => by simp [wl, wl_len b t]
theorem al_len (h v : List Int) : ∀ m, (al h v m).length = h.length
  | 0 => rfl
  | m + 1 => by simp [al, al_len h v m]
theorem be_len (n : Nat) : ∀ m, (be m n).length = m
  | 0 => rfl
  | m + 1 => by simp [be, be_len n m]
theorem padL_len (b : ByteArray) : (padL b).length = b.size + 9 + padZ b.size := by
  simp [padL, be_len, bytesOf_len]; omega
theorem padV_size (b : ByteArray) : (padV b).size = b.size + 9 + padZ b.size := by rw [padV, ofBytes_size, padL_len]
theorem padV_64 (b : ByteArray) : (padV b).size % 64 = 0 := by rw [padV_size]; unfold padZ; omega
def allU (l : List Int) : Prop := ∀ x ∈ l, u32 x
theorem u32_zero : u32 0 := ⟨by omega, by omega⟩
theorem allU_get {l : List Int} (h : allU l) (i : Nat) : u32 (l.getD i 0) := by
  rw [List.getD_eq_getElem?_getD]
  cases hi : l[i]? with
  | none => exact u32_zero
  | some x => exact h x (List.mem_of_getElem? hi)
theorem allU_set {l : List Int} (h : allU l) {i : Nat} {x : Int} (hx : u32 x) : allU (l.set i x) := by
  intro y hy
  rcases List.mem_or_eq_of_mem_set hy with h' | rfl
  · exact h y h'
  · exact hx
def bytesB (b : Nat → Int) : Prop := ∀ j, 0 ≤ b j ∧ b j < 256
theorem wv_u32 {b : Nat → Int} (hb : bytesB b) (t : Nat) (w : List Int) : u32 (wv b t w) := by
  unfold wv u32
  have h0 := hb (4 * t)
  have h1 := hb (4 * t + 1)
  have h2 := hb (4 * t + 2)
  have h3 := hb (4 * t + 3)
  split <;> omega
theorem wl_u32 {b : Nat → Int} (hb : bytesB b) : ∀ t, allU (wl b t)
  | 0 => fun x hx => by rw [List.eq_of_mem_replicate hx]; exact u32_zero
  | t + 1 => allU_set (wl_u32 hb t) (wv_u32 hb t _)
theorem wl_zero (b : Nat → Int) : ∀ t k, t ≤ k → k < 64 → (wl b t).getD k 0 = 0
  | 0, k, _, h => by
    show (List.replicate 64 (0 : Int)).getD k 0 = 0
    rw [List.getD_eq_getElem?_getD, List.getElem?_replicate, if_pos h]; rfl
  | t + 1, k, h1, h2 => by
    have := wl_zero b t k (by omega) h2
    rw [List.getD_eq_getElem?_getD] at this ⊢
    rw [wl, List.getElem?_set_ne (by omega)]
    exact this
theorem wl_congr {b c : Nat → Int} (h : ∀ j, j < 64 → b j = c j) : ∀ t, t ≤ 64 → wl b t = wl c t
  | 0, _ => rfl
  | t + 1, ht => by
    have ih := wl_congr h t (by omega)
    rw [wl, wl, ih]
    congr 1
    unfold wv
    split
    · rw [h _ (by omega), h _ (by omega), h _ (by omega), h _ (by omega)]
    · rfl
theorem ad_u32 (a b : Int) : u32 (ad .u32 a b) := wrap_u32 _
theorem rnd_u32 {k w : Int} {v : List Int} (hv : allU v) : allU (rnd k w v) := by
  intro x hx
  simp only [rnd, List.mem_cons, List.not_mem_nil, or_false] at hx
  rcases hx with rfl | rfl | rfl | rfl | rfl | rfl | rfl | rfl
  all_goals first | exact ad_u32 _ _ | exact allU_get hv _
theorem vl_u32 {h w : List Int} (hh : allU h) : ∀ t, allU (vl h w t)
  | 0 => hh
  | t + 1 => rnd_u32 (vl_u32 hh t)
theorem vl_len {h w : List Int} (hh : h.length = 8) : ∀ t, (vl h w t).length = 8
  | 0 => hh
  | t + 1 => rfl
theorem al_u32 {h v : List Int} (hh : allU h) : ∀ m, allU (al h v m)
  | 0 => hh
  | m + 1 => allU_set (al_u32 hh m) (ad_u32 _ _)
theorem H0_u32 : allU H0 := by unfold allU u32 H0; decide
theorem hv_u32 (t : ByteArray) : ∀ m, allU (hv t m)
  | 0 => H0_u32
  | m + 1 => al_u32 (hv_u32 t m) 8
theorem hv_len (t : ByteArray) : ∀ m, (hv t m).length = 8
  | 0 => rfl
  | m + 1 => by rw [hv, mixV, al_len, hv_len t m]
theorem byte_b (t : ByteArray) (m : Nat) : bytesB fun j => byteAt t (m + j) := fun j => byteAt_range t _
theorem w32_at {l : List Int} {i : Nat} (h : i < l.length) : (w32 l).at i = D.int .u32 (l.getD i 0) := by
  unfold w32
  simp [List.getD_eq_getElem?_getD, h]
theorem list8 {l : List Int} (h : l.length = 8) : ∃ a b c d e f g i, l = [a, b, c, d, e, f, g, i] := by
  match l, h with
  | [a, b, c, d, e, f, g, i], _ => exact ⟨a, b, c, d, e, f, g, i, rfl⟩
theorem word4 {x0 x1 x2 x3 : Int} (h0 : 0 ≤ x0 ∧ x0 < 256) (h1 : 0 ≤ x1 ∧ x1 < 256) (h2 : 0 ≤ x2 ∧ x2 < 256) (h3 : 0 ≤ x3 ∧ x3 < 256) :
    orI .u32 (orI .u32 (orI .u32 (shlI .u32 (cv .u32 x0) 24) (shlI .u32 (cv .u32 x1) 16)) (shlI .u32 (cv .u32 x2) 8)) (cv .u32 x3) = x0 * 16777216 + x1 * 65536 + x2 * 256 + x3 := by
  obtain ⟨a, rfl⟩ : ∃ a : Nat, x0 = a := ⟨x0.toNat, by omega⟩
  obtain ⟨b, rfl⟩ : ∃ a : Nat, x1 = a := ⟨x1.toNat, by omega⟩
  obtain ⟨c, rfl⟩ : ∃ a : Nat, x2 = a := ⟨x2.toNat, by omega⟩
  obtain ⟨d, rfl⟩ : ∃ a : Nat, x3 = a := ⟨x3.toNat, by omega⟩
  have sh : ∀ (x : Nat) (n m : Nat), n ≤ 32 → 2 ^ n = m → x * m < 4294967296 → shlI .u32 (x : Int) n = ((x * m : Nat) : Int) := by
    intro x n m hn hm hx
    unfold shlI
    rw [show min n (IntKind.bits .u32) = n from Nat.min_eq_left (by show n ≤ 32; omega), wrap32]
    have : (x : Int) * 2 ^ n = ((x * m : Nat) : Int) := by rw [← hm]; simp
    rw [this]; omega
  have e : ∀ x : Nat, x < 256 → cv .u32 (x : Int) = (x : Int) := fun x hx => by rw [cv32]; omega
  rw [e a (by omega), e b (by omega), e c (by omega), e d (by omega), sh a 24 16777216 (by omega) (by decide) (by omega), sh b 16 65536 (by omega) (by decide) (by omega), sh c 8 256 (by omega) (by decide) (by omega)]
  rw [orI32 (by omega) (by omega), show a * 16777216 ||| b * 65536 = (a * 256 + b) * 65536 from by
      have := or_add (a := a) (b := b * 65536) (n := 24) (by omega)
      rw [show (2 : Nat) ^ 24 = 16777216 by decide] at this; rw [this]; omega]
  rw [orI32 (by omega) (by omega), show (a * 256 + b) * 65536 ||| c * 256 = (a * 65536 + b * 256 + c) * 256 from by
      have := or_add (a := a * 256 + b) (b := c * 256) (n := 16) (by omega)
      rw [show (2 : Nat) ^ 16 = 65536 by decide] at this; rw [this]; omega]
  rw [orI32 (by omega) (by omega), show (a * 65536 + b * 256 + c) * 256 ||| d = a * 16777216 + b * 65536 + c * 256 + d from by
      have := or_add (a := a * 65536 + b * 256 + c) (b := d) (n := 8) (by omega)
      rw [show (2 : Nat) ^ 8 = 256 by decide] at this; rw [this]; omega]
  omega
theorem rr_real {x : Int} (hx : u32 x) :
    F133.s FUEL x 7 = some (D.int .u32 (rI x 7)) ∧ F133.s FUEL x 18 = some (D.int .u32 (rI x 18)) ∧ F133.s FUEL x 17 = some (D.int .u32 (rI x 17)) ∧ F133.s FUEL x 19 = some (D.int .u32 (rI x 19)) ∧
    F133.s FUEL x 6 = some (D.int .u32 (rI x 6)) ∧ F133.s FUEL x 11 = some (D.int .u32 (rI x 11)) ∧ F133.s FUEL x 25 = some (D.int .u32 (rI x 25)) ∧
    F133.s FUEL x 2 = some (D.int .u32 (rI x 2)) ∧ F133.s FUEL x 13 = some (D.int .u32 (rI x 13)) ∧ F133.s FUEL x 22 = some (D.int .u32 (rI x 22)) :=
  ⟨right_real hx 7 7 (by omega) (by decide), right_real hx 18 18 (by omega) (by decide), right_real hx 17 17 (by omega) (by decide), right_real hx 19 19 (by omega) (by decide),
    right_real hx 6 6 (by omega) (by decide), right_real hx 11 11 (by omega) (by decide), right_real hx 25 25 (by omega) (by decide),
    right_real hx 2 2 (by omega) (by decide), right_real hx 13 13 (by omega) (by decide), right_real hx 22 22 (by omega) (by decide)⟩
theorem rr_ref {x : Int} (hx : u32 x) :
    F99.s FUEL x 7 = some (D.int .u32 (rI x 7)) ∧ F99.s FUEL x 18 = some (D.int .u32 (rI x 18)) ∧ F99.s FUEL x 17 = some (D.int .u32 (rI x 17)) ∧ F99.s FUEL x 19 = some (D.int .u32 (rI x 19)) ∧
    F99.s FUEL x 6 = some (D.int .u32 (rI x 6)) ∧ F99.s FUEL x 11 = some (D.int .u32 (rI x 11)) ∧ F99.s FUEL x 25 = some (D.int .u32 (rI x 25)) ∧
    F99.s FUEL x 2 = some (D.int .u32 (rI x 2)) ∧ F99.s FUEL x 13 = some (D.int .u32 (rI x 13)) ∧ F99.s FUEL x 22 = some (D.int .u32 (rI x 22)) :=
  ⟨right_ref hx 7 (by omega), right_ref hx 18 (by omega), right_ref hx 17 (by omega), right_ref hx 19 (by omega), right_ref hx 6 (by omega), right_ref hx 11 (by omega), right_ref hx 25 (by omega),
    right_ref hx 2 (by omega), right_ref hx 13 (by omega), right_ref hx 22 (by omega)⟩
theorem words_real (s : ByteArray) (hs : s.size = 64) : F132.s FUEL s = some (w32 (wl (fun j => byteAt s j) 64)) := by
  have hb : bytesB fun j => byteAt s j := fun j => byteAt_range s _
  generalize hB : (fun j => byteAt s j) = B at hb
  have hBj : ∀ j, byteAt s j = B j := fun j => by rw [← hB]
  unfold F132.s
  refine goS_rule (fun t => ∃ (k : Nat) (d3 : D), t = ⟨s, (k : Int), d3, w32 (wl B k)⟩ ∧ k ≤ 64) (fun t => 64 - t.i2.toNat) (fun o => o = some (w32 (wl B 64))) ?_ _ _ ⟨0, _, rfl, by omega⟩ (by simp [FUEL])
  rintro _ rec ⟨k, d3, rfl, hk⟩ hrec
  simp only [F132.st3]
  have hwl := wl_len B k
  by_cases h1 : k < 64
  · have hadd : ad .i64 (k : Int) 1 = ((k + 1 : Nat) : Int) := by rw [ad64 (by omega) (by omega)]; rfl
    have fin : ∀ x : Int, x = wv B k (wl B k) → rec ⟨s, ad .i64 (k : Int) 1, d3, D.agg ((w32 (wl B k)).parts.set (Int.toNat (k : Int)) (D.int .u32 x))⟩ = some (w32 (wl B 64)) := by
      intro x hx
      rw [hadd, w32_set, Int.toNat_natCast, hx]
      exact hrec _ ⟨k + 1, d3, rfl, by omega⟩ (by simp; omega)
    refine ct (by simp; omega) ?_
    by_cases h2 : k < 16
    · have hm : ml .i64 4 (k : Int) = ((4 * k : Nat) : Int) := by rw [ml64 (by omega) (by omega)]; omega
      have ha : ∀ j : Nat, j ≤ 3 → ad .i64 ((4 * k : Nat) : Int) (j : Int) = ((4 * k + j : Nat) : Int) := fun j hj => by rw [ad64 (by omega) (by omega)]; omega
      refine ct (by simp; omega) ?_
      rw [hm, show (1 : Int) = ((1 : Nat) : Int) from rfl, show (2 : Int) = ((2 : Nat) : Int) from rfl, show (3 : Int) = ((3 : Nat) : Int) from rfl, ha 1 (by omega), ha 2 (by omega), ha 3 (by omega)]
      refine ct (by simp; omega) (ct (by simp; omega) (ct (by simp; omega) (ct (by simp; omega) (ct (by simp; omega) ?_))))
      refine fin _ ?_
      simp only [Int.toNat_natCast]
      rw [word4 (byteAt_range _ _) (byteAt_range _ _) (byteAt_range _ _) (byteAt_range _ _), wv, if_pos h2, hBj, hBj, hBj, hBj]
    · have hs15 : sb .i64 (k : Int) 15 = ((k - 15 : Nat) : Int) := by rw [sb64 (by omega) (by omega)]; omega
      have hs2 : sb .i64 (k : Int) 2 = ((k - 2 : Nat) : Int) := by rw [sb64 (by omega) (by omega)]; omega
      have hs16 : sb .i64 (k : Int) 16 = ((k - 16 : Nat) : Int) := by rw [sb64 (by omega) (by omega)]; omega
      have hs7 : sb .i64 (k : Int) 7 = ((k - 7 : Nat) : Int) := by rw [sb64 (by omega) (by omega)]; omega
      have hu := wl_u32 hb k
      have hx := allU_get hu (k - 15)
      have hy := allU_get hu (k - 2)
      obtain ⟨r7, r18, r17, r19, _⟩ := rr_real hx
      obtain ⟨_, _, q17, q19, _⟩ := rr_real hy
      rw [hs15, hs2, hs16, hs7]
      simp only [Int.toNat_natCast]
      rw [w32_at (by omega), w32_at (by omega), w32_at (by omega), w32_at (by omega)]
      refine cf (by simp; omega) (ct (by simp; omega) (ct (by simp; omega) (ct (by simp; omega) (bdS r7 (bdS r18 (ct (by simp; omega) (bdS q17 (bdS q19 (ct (by simp; omega) ?_)))))))))
      refine fin _ ?_
      rw [wv, if_neg h2]
      simp only [i_int]
      rw [shr_real hx 3 (by omega), shr_real hy 10 (by omega)]
      rw [ad32, ad32, ad32]
      unfold S0 S1
      omega
  · refine cf (by simp; omega) ?_
    have : k = 64 := by omega
    subst this
    rfl
theorem mix_real (h : List Int) (s : ByteArray) (hh : h.length = 8) (hu : allU h) (hs : s.size = 64) : F89.s FUEL (w32 h) (w32 K0) s = some (w32 (mixV h fun j => byteAt s j)) := by
  unfold F89.s
  refine ct (by simp [w32, hh]) (bdS (words_real s hs) ?_)
  unfold mixV
  generalize hw : wl (fun j => byteAt s j) 64 = W
  have hWl : W.length = 64 := by rw [← hw]; exact wl_len _ _
  refine goS_rule (fun t : F89.S3 => ∃ (j : Nat) (i6 i7 i8 i9 i10 i11 i12 i13 : Int) (b14 : Bool), t = ⟨w32 W, (j : Int), w32 h, w32 K0, i6, i7, i8, i9, i10, i11, i12, i13, b14, (vl h W j).map (D.int .u32)⟩ ∧ j ≤ 64) (fun t => 64 - t.i3.toNat) (fun o => o = some (w32 (al h (vl h W 64) 8))) ?_ _ _ ⟨0, 0, 0, 0, 0, 0, 0, 0, 0, true, rfl, by omega⟩ (by simp [FUEL])
  rintro _ rec ⟨j, i6, i7, i8, i9, i10, i11, i12, i13, b14, rfl, hj⟩ hrec
  simp only [F89.st3]
  have hvl := vl_len (w := W) hh j
  by_cases h1 : j < 64
  · have hadd : ad .i64 (j : Int) 1 = ((j + 1 : Nat) : Int) := by rw [ad64 (by omega) (by omega)]; rfl
    have hvu := vl_u32 (w := W) hu j
    have hst : vl h W (j + 1) = rnd (K0.getD j 0) (W.getD j 0) (vl h W j) := rfl
    obtain ⟨a, b, c, d, e, f, g, i, hv⟩ := list8 hvl
    have he : u32 e := hvu e (by rw [hv]; simp)
    have ha : u32 a := hvu a (by rw [hv]; simp)
    obtain ⟨_, _, _, _, r6, r11, r25, _⟩ := rr_real he
    obtain ⟨_, _, _, _, _, _, _, r2, r13, r22⟩ := rr_real ha
    have hK : j < K0.length := by show j < 64; omega
    rw [hadd]
    simp only [Int.toNat_natCast]
    rw [w32_at hK, w32_at (by omega)]
    rw [hv] at hst ⊢
    refine ct (by simp; omega) (ct (by simp; omega) (bdS r6 (bdS r11 (bdS r25 (ct (by simp; omega) (bdS r2 (bdS r13 (bdS r22 (ct rfl (ct rfl ?_))))))))))
    refine hrec _ ⟨j + 1, i6, i7, i8, i9, i10, i11, i12, i13, b14, ?_, by omega⟩ (by simp; omega)
    rw [hst]
    have hne : notI .u32 e = sb .u32 4294967295 e := not32 he
    have e4 : (ix (List.map (D.int IntKind.u32) [a, b, c, d, e, f, g, i]) 4).i = e := rfl
    rw [e4, hne]
    rfl
  · refine cf (by simp; omega) ?_
    have hj64 : j = 64 := by omega
    subst hj64
    generalize hV : vl h W 64 = V at hvl
    refine goS_rule (fun t : F89.S13 => ∃ (m : Nat) (d24 : D) (i25 i26 i27 i28 i29 i30 i31 i32 : Int) (b33 : Bool), t = ⟨(m : Int), w32 (al h V m), d24, i25, i26, i27, i28, i29, i30, i31, i32, b33, V.map (D.int .u32)⟩ ∧ m ≤ 8) (fun t => 8 - t.i22.toNat) (fun o => o = some (w32 (al h V 8))) ?_ _ _ ⟨0, _, _, _, _, _, _, _, _, _, _, rfl, by omega⟩ (by simp [FUEL])
    rintro _ rec2 ⟨m, d24, i25, i26, i27, i28, i29, i30, i31, i32, b33, rfl, hm⟩ hrec2
    simp only [F89.st13]
    have hal := al_len h V m
    by_cases h2 : m < 8
    · have hadd : ad .i64 (m : Int) 1 = ((m + 1 : Nat) : Int) := by rw [ad64 (by omega) (by omega)]; rfl
      refine ct (by simp; omega) (ct (by simp; omega) (ct (by simp; omega) (ct (by simp; omega) ?_)))
      have hg : V[m]'(by omega) = V.getD m 0 := by rw [List.getD_eq_getElem?_getD, List.getElem?_eq_getElem (by omega)]; rfl
      rw [hadd, w32_set, Int.toNat_natCast, w32_at (by omega), ix_map (show m < V.length by omega), hg]
      exact hrec2 _ ⟨m + 1, d24, i25, i26, i27, i28, i29, i30, i31, i32, b33, rfl, by omega⟩ (by simp; omega)
    · refine cf (by simp; omega) ?_
      have : m = 8 := by omega
      subst this
      rfl
end Go.AM.SZ
namespace Go.AM.SZ
open Go Go.AM
theorem rem64 (n : Nat) : remI (nI n) 64 = ((n % 64 : Nat) : Int) := tmod_nat n 64
theorem wrap64 (n : Int) : IntKind.wrap .u64 n = n % 18446744073709551616 := by simp [IntKind.wrap, IntKind.signed, IntKind.bits]
theorem cv8 (n : Nat) : cv .u8 (n : Int) = ((n % 256 : Nat) : Int) := by
  have : IntKind.wrap .u8 (n : Int) = (n : Int) % 256 := by simp [IntKind.wrap, IntKind.signed, IntKind.bits]
  unfold cv; rw [this]; omega
theorem shr64 (n k : Nat) (hk : k ≤ 64) : shrI .u64 (n : Int) k = ((n / 2 ^ k : Nat) : Int) := by
  have hp : 0 < 2 ^ k := Nat.two_pow_pos k
  unfold shrI
  rw [show min k (IntKind.bits .u64) = k from Nat.min_eq_left (by show k ≤ 64; omega), Int.fdiv_eq_ediv_of_nonneg _ (by exact Int.le_of_lt (by exact_mod_cast hp))]
  simp
theorem pow8 (k : Nat) : 2 ^ (8 * k) = 256 ^ k := by rw [Nat.pow_mul]
def padBase (b : ByteArray) (j : Nat) : List D := bytesOf b ++ [D.int .u8 128] ++ List.replicate j (D.int .u8 0)
theorem padBase_len (b : ByteArray) (j : Nat) : (padBase b j).length = b.size + 1 + j := by simp [padBase, bytesOf_len]; omega
theorem padBase_step (b : ByteArray) (j : Nat) : padBase b j ++ [D.int .u8 0] = padBase b (j + 1) := by
  unfold padBase
  rw [List.append_assoc, ← List.replicate_succ']
theorem pad_real (b : ByteArray) (hb : b.size ≤ 1000000) : F88.s FUEL b = some (dS (padV b)) := by
  unfold F88.s
  refine ct (by simp; omega) (ct (by simp; omega) ?_)
  refine goS_rule (fun t : F88.S2 => ∃ (j : Nat) (b4 : Bool), t = ⟨b, 0, b.size + 1 + j, b4, padBase b j⟩ ∧ j ≤ padZ b.size) (fun t => b.size + 1 + padZ b.size - t.n3) (fun o => o = some (dS (padV b))) ?_ _ _ ⟨0, true, ?_, by omega⟩ (by simp [FUEL]; unfold padZ; omega)
  · rintro _ rec ⟨j, b4, rfl, hj⟩ hrec
    simp only [F88.st2]
    have hl := padBase_len b j
    have hz : padZ b.size < 64 := by unfold padZ; omega
    rw [rem64]
    by_cases h1 : j < padZ b.size
    · refine ct (by rw [neI_t]; unfold padZ at h1; omega) (ct (by simp; omega) ?_)
      have e : ap ((((padBase b j).drop 0).take (b.size + 1 + j))) [D.int .u8 0] = padBase b (j + 1) := by
        rw [List.drop_zero, List.take_of_length_le (by omega)]; exact padBase_step b j
      rw [e]
      exact hrec _ ⟨j + 1, _, rfl, by omega⟩ (by dsimp only; omega)
    · have hjz : j = padZ b.size := by omega
      refine cf (by rw [neI_f]; unfold padZ at hjz; omega) ?_
      have hn : shlI .u64 (cv .u64 (nI b.size)) 3 = ((8 * b.size : Nat) : Int) := by
        unfold shlI cv
        rw [wrap64, wrap64, show min 3 (IntKind.bits .u64) = 3 from rfl, nI_eq]; omega
      rw [hn]
      generalize hN : 8 * b.size = n
      have hn64 : n < 18446744073709551616 := by omega
      refine goS_rule (fun t : F88.S6 => ∃ (k : Nat) (l : List D) (b10 : Bool), t = ⟨0, l.length, (n : Int), (k : Int) - 1, b10, l⟩ ∧ k ≤ 8 ∧ l ++ be k n = padL b ∧ l.length + k = (padL b).length) (fun t => (t.i9 + 1).toNat) (fun o => o = some (dS (padV b))) ?_ _ _ ⟨8, padBase b j, b4, by rw [hl]; rfl, by omega, by rw [hjz, ← hN]; rfl, by rw [hl, padL_len]; omega⟩ (by simp [FUEL])
      rintro _ rec2 ⟨k, l, b10, rfl, hk, hl2, hl3⟩ hrec2
      have hpl := padL_len b
      simp only [F88.st6]
      have hdt : ((l.drop 0).take l.length) = l := by rw [List.drop_zero, List.take_length]
      by_cases h2 : 1 ≤ k
      · have hml : ml .i64 8 ((k : Int) - 1) = ((8 * (k - 1) : Nat) : Int) := by rw [ml64 (by omega) (by omega)]; omega
        have hsb : sb .i64 ((k : Int) - 1) 1 = ((k - 1 : Nat) : Int) - 1 := by rw [sb64 (by omega) (by omega)]; omega
        refine ct (by simp; omega) ?_
        rw [hml, if_neg (by omega), bd_some, hdt, hsb, Int.toNat_natCast, i_int, shr64 _ _ (by omega), cv8, pow8]
        refine ct (by simp; omega) ?_
        refine hrec2 _ ⟨k - 1, l ++ [D.int .u8 ((n / 256 ^ (k - 1) % 256 : Nat) : Int)], (b10 || true), ?_, by omega, ?_, by simp; omega⟩ ?_
        · rw [List.length_append]; rfl
        · obtain ⟨k', rfl⟩ : ∃ k', k = k' + 1 := ⟨k - 1, by omega⟩
          rw [← hl2]
          simp [be]
        · dsimp only; omega
      · refine cf (by simp; omega) ?_
        have : k = 0 := by omega
        subst this
        rw [hdt]
        have : l = padL b := by simpa [be] using hl2
        rw [this]
        rfl
  · rw [F88.S2.mk.injEq]
    refine ⟨rfl, rfl, by omega, rfl, ?_⟩
    rw [List.drop_zero, List.take_of_length_le (by rw [bytesOf_len]; exact Nat.le_refl _)]
    simp [padBase, ap]
theorem ob_real {h : List Int} (hu : allU h) (k : Nat) (hk : k < 32) (hh : h.length = 8) :
    (bd (if (sb .i64 24 (ml .i64 8 (remI (k : Int) 4))) < 0 then none else some (.int .u32 (shrI .u32 ((w32 h).at (quoI .i64 (k : Int) 4).toNat).i (sb .i64 24 (ml .i64 8 (remI (k : Int) 4))).toNat))) fun r13 => some (D.int .u8 (cv .u8 r13.i))) = some (D.int .u8 (ob h k)) := by
  have hrem : remI (k : Int) 4 = ((k % 4 : Nat) : Int) := tmod_nat k 4
  have hml : ml .i64 8 ((k % 4 : Nat) : Int) = ((8 * (k % 4) : Nat) : Int) := by rw [ml64 (by omega) (by omega)]; omega
  have hsb : sb .i64 24 ((8 * (k % 4) : Nat) : Int) = ((8 * (3 - k % 4) : Nat) : Int) := by rw [sb64 (by omega) (by omega)]; omega
  have hg := allU_get hu (k / 4)
  rw [hrem, hml, hsb, quo4 k hk, if_neg (by omega), bd_some, Int.toNat_natCast, Int.toNat_natCast, w32_at (by omega), i_int, i_int, shr_real hg _ (by omega), cv8, pow8]
  rfl
theorem out_real {h : List Int} (hu : allU h) (hl8 : h.length = 8) (d9 d11 : D) (z : D) (hz : z = sumD zeros) (K : F42.X8 → Option D) (hK : ∀ i d9 d10 d11 d12, K (.e0 i d9 d10 d11 d12) = some d12) :
    goS (F42.st8 FUEL) FUEL ⟨0, d9, w32 h, d11, z⟩ K = some (sumD (ol h 32)) := by
  subst hz
  obtain ⟨R, hR⟩ : ∃ R, R = sumD (ol h 32) := ⟨_, rfl⟩
  rw [← hR]
  refine goS_rule (fun s : F42.S8 => ∃ k : Nat, s = ⟨(k : Int), d9, w32 h, d11, sumD (ol h k)⟩ ∧ k ≤ 32) (fun s => 32 - s.i8.toNat) (fun o => o = some R) ?_ _ _ ⟨0, rfl, by omega⟩ (by simp [FUEL])
  rintro _ rec2 ⟨k, rfl, hk⟩ hrec2
  simp only [F42.st8]
  by_cases hk2 : k < 32
  · have hadd : ad .i64 (k : Int) 1 = ((k + 1 : Nat) : Int) := by rw [ad64 (by omega) (by omega)]; rfl
    have hob := ob_real hu k hk2 hl8
    refine ct (by simp; omega) (ct (by rw [quo4 k hk2]; simp; omega) ?_)
    generalize (if (sb .i64 24 (ml .i64 8 (remI (k : Int) 4))) < 0 then none else some (D.int .u32 (shrI .u32 ((w32 h).at (quoI .i64 (k : Int) 4).toNat).i (sb .i64 24 (ml .i64 8 (remI (k : Int) 4))).toNat)) : Option D) = x at hob ⊢
    cases x with
    | none => simp [bd] at hob
    | some y =>
      rw [bd_some] at hob
      rw [bd_some, Option.some.inj hob, hadd, Int.toNat_natCast]
      refine ct (by simp; omega) ?_
      have e : D.agg ((sumD (ol h k)).parts.set k (D.int .u8 (ob h k))) = sumD (ol h (k + 1)) := by
        rw [ol]
        unfold sumD
        rw [List.map_set]
        rfl
      rw [e]
      exact hrec2 _ ⟨k + 1, rfl, by omega⟩ (by simp; omega)
  · refine cf (by simp; omega) ?_
    have : k = 32 := by omega
    subst this
    rw [hK, hR]
theorem real_of (b : ByteArray) (hb : b.size ≤ 1000000) : F42.s FUEL b = some (sumD (shaV b)) := by
  unfold F42.s
  rw [const_spec, bd_some, pad_real b hb, bd_some]
  have h64 := padV_64 b
  have hsz := padV_size b
  have hz : padZ b.size < 64 := by unfold padZ; omega
  unfold shaV
  generalize padV b = P at h64 hsz
  generalize hM : P.size / 64 = M
  have hPM : P.size = 64 * M := by omega
  obtain ⟨R, hR⟩ : ∃ R, R = sumD (ol (hv P M) 32) := ⟨_, rfl⟩
  rw [← hR]
  have e0 : P.extract (64 * 0) P.size = P := by simp
  refine goS_rule (fun s : F42.S3 => ∃ m : Nat, s = ⟨dS (P.extract (64 * m) P.size), da (rp 32 (D.int .u8 0)), w32 (hv P m), w32 K0⟩ ∧ m ≤ M) (fun s => s.d3.s.size / 64) (fun o => o = some R) ?_ _ _ ⟨0, by rw [e0]; rfl, by omega⟩ (by simp [FUEL]; omega)
  rintro _ rec ⟨m, rfl, hm⟩ hrec
  simp only [F42.st3]
  have hds : (dS (P.extract (64 * m) P.size)).s = P.extract (64 * m) P.size := rfl
  rw [hds]
  have hsz2 : (P.extract (64 * m) P.size).size = P.size - 64 * m := by simp
  by_cases h0 : m < M
  · refine ct (by rw [gtI_t, nI_eq, hsz2]; omega) (ct (by rw [hsz2]; simp; omega) ?_)
    have hs : ((P.extract (64 * m) P.size).extract 0 64).size = 64 := by simp; omega
    refine bdS (mix_real (hv P m) _ (hv_len P m) (hv_u32 P m) hs) (ct (by rw [hsz2]; simp; omega) ?_)
    have e1 : mixV (hv P m) (fun j => byteAt ((P.extract (64 * m) P.size).extract 0 64) j) = hv P (m + 1) := by
      rw [hv]
      unfold mixV
      rw [wl_congr (c := fun j => byteAt P (64 * m + j)) (fun j hj => ?_) 64 (by omega)]
      unfold byteAt
      simp only [List.getD_eq_getElem?_getD, ByteArray.data_extract, Array.toList_extract, List.extract_eq_drop_take]
      rw [List.getElem?_take, if_pos (by omega), List.drop_zero, List.getElem?_take, if_pos (by omega), List.getElem?_drop]
    have e2 : (P.extract (64 * m) P.size).extract 64 (P.extract (64 * m) P.size).size = P.extract (64 * (m + 1)) P.size := by
      rw [hsz2]
      apply ByteArray.ext
      apply Array.toList_inj.1
      simp only [ByteArray.data_extract, Array.toList_extract, List.extract_eq_drop_take]
      rw [List.drop_take, List.drop_drop, List.take_take, Nat.min_self, Nat.sub_sub, show 64 * (m + 1) = 64 * m + 64 by omega]
    rw [e1, e2]
    refine hrec ⟨dS (P.extract (64 * (m + 1)) P.size), da (rp 32 (D.int .u8 0)), w32 (hv P (m + 1)), w32 K0⟩ ⟨m + 1, rfl, by omega⟩ ?_
    dsimp only
    rw [show (dS (P.extract (64 * (m + 1)) P.size)).s = P.extract (64 * (m + 1)) P.size from rfl, hds, hsz2]
    simp; omega
  · have hmM : m = M := by omega
    subst hmM
    refine cf (by rw [gtI_f, nI_eq, hsz2]; omega) ?_
    rw [hR]
    exact out_real (hv_u32 P m) (hv_len P m) _ _ _ (by kernel_rfl) _ (fun _ _ _ _ _ => rfl)
end Go.AM.SZ
namespace Go.AM.SZ
open Go Go.AM
theorem roots_spec : F96.s FUEL = some (w32 H0) := rfl
theorem cubes_spec : F97.s FUEL = some (w32 K0) := rfl
theorem pad_ref (b : ByteArray) (hb : b.size ≤ 1000000) : F98.s FUEL b = some (dS (padV b)) := by
  unfold F98.s
  refine ct (by simp; omega) (ct (by simp; omega) ?_)
  refine goS_rule (fun t : F98.S3 => ∃ (j : Nat) (b6 : Bool), t = ⟨b, 0, b.size + 1 + j, true, [D.int .u8 128], b6, padBase b j⟩ ∧ j ≤ padZ b.size) (fun t => b.size + 1 + padZ b.size - t.n3) (fun o => o = some (dS (padV b))) ?_ _ _ ⟨0, true, ?_, by omega⟩ (by simp [FUEL]; unfold padZ; omega)
  · rintro _ rec ⟨j, b6, rfl, hj⟩ hrec
    simp only [F98.st3]
    have hl := padBase_len b j
    have hz : padZ b.size < 64 := by unfold padZ; omega
    rw [rem64]
    by_cases h1 : j < padZ b.size
    · refine ct (by rw [neI_t]; unfold padZ at h1; omega) (ct (by simp; omega) ?_)
      have e : ap ((((padBase b j).drop 0).take (b.size + 1 + j))) [D.int .u8 0] = padBase b (j + 1) := by
        rw [List.drop_zero, List.take_of_length_le (by omega)]; exact padBase_step b j
      rw [e]
      exact hrec _ ⟨j + 1, (b6 || true), rfl, by omega⟩ (by dsimp only; omega)
    · have hjz : j = padZ b.size := by omega
      refine cf (by rw [neI_f]; unfold padZ at hjz; omega) ?_
      have hn : ml .u64 (cv .u64 (nI b.size)) 8 = ((8 * b.size : Nat) : Int) := by
        unfold ml cv
        rw [wrap64, wrap64, nI_eq]; omega
      rw [hn]
      generalize hN : 8 * b.size = n
      have hn64 : n < 18446744073709551616 := by omega
      refine goS_rule (fun t : F98.S8 => ∃ (k : Nat) (b18 : Bool), t = ⟨0, b.size + 1 + j, ((n / 256 ^ k : Nat) : Int), 0, k, (k : Int), true, [D.int .u8 128], b6, padBase b j, b18, be k n⟩ ∧ k ≤ 8) (fun t => 8 - t.i13.toNat) (fun o => o = some (dS (padV b))) ?_ _ _ ⟨0, false, by simp [be], by omega⟩ (by simp [FUEL])
      rintro _ rec2 ⟨k, b18, rfl, hk⟩ hrec2
      simp only [F98.st8]
      have hbl := be_len n k
      have hdt : (((be k n).drop 0).take k) = be k n := by rw [List.drop_zero, List.take_of_length_le (by omega)]
      rw [hdt]
      by_cases h2 : k < 8
      · have hadd : ad .i64 (k : Int) 1 = ((k + 1 : Nat) : Int) := by rw [ad64 (by omega) (by omega)]; rfl
        have hq : quoI .u64 ((n / 256 ^ k : Nat) : Int) 256 = ((n / 256 ^ (k + 1) : Nat) : Int) := by
          unfold quoI
          have e1 : ((n / 256 ^ k : Nat) : Int).tdiv 256 = ((n / 256 ^ k / 256 : Nat) : Int) := rfl
          have e2 : n / 256 ^ k / 256 = n / 256 ^ (k + 1) := by rw [Nat.div_div_eq_div_mul, ← Nat.pow_succ]
          have e3 : n / 256 ^ (k + 1) ≤ n := Nat.div_le_self _ _
          rw [e1, e2, wrap64]
          generalize n / 256 ^ (k + 1) = q at e3
          omega
        have hr : remI ((n / 256 ^ k : Nat) : Int) 256 = ((n / 256 ^ k % 256 : Nat) : Int) := rfl
        refine ct (by simp; omega) ?_
        rw [hadd, hq, hr, cv8, hbl, Nat.mod_mod]
        refine ct (by simp; omega) ?_
        refine hrec2 _ ⟨k + 1, true, ?_, by omega⟩ (by simp; omega)
        rw [show 1 + k = k + 1 by omega]
        rfl
      · refine cf (by simp; omega) ?_
        have : k = 8 := by omega
        subst this
        rw [hbl]
        refine ct (by simp; omega) ?_
        have e : ap (((padBase b j).drop 0).take (b.size + 1 + j)) (be 8 n) = padL b := by
          rw [List.drop_zero, List.take_of_length_le (by omega), hjz, ← hN]; rfl
        have e2 : (((padL b).drop 0).take (b.size + 1 + j + 8)) = padL b := by
          rw [List.drop_zero, List.take_of_length_le (by rw [padL_len]; omega)]
        rw [e, e2]
        rfl
  · rw [F98.S3.mk.injEq]
    refine ⟨rfl, rfl, by omega, rfl, rfl, rfl, ?_⟩
    rw [List.drop_zero, List.take_of_length_le (by rw [bytesOf_len]; exact Nat.le_refl _)]
    simp [padBase, ap]
def partW (B : Nat → Int) (k : Nat) (x : Int) : Nat → Int
  | 0 => 0
  | 1 => B (4 * k)
  | 2 => B (4 * k) * 256 + B (4 * k + 1)
  | 3 => B (4 * k) * 65536 + B (4 * k + 1) * 256 + B (4 * k + 2)
  | _ => x
theorem partW_step {B : Nat → Int} (hb : bytesB B) {k i : Nat} (hi : i < 4) (x : Int) (hx : x = B (4 * k) * 16777216 + B (4 * k + 1) * 65536 + B (4 * k + 2) * 256 + B (4 * k + 3)) :
    ad .u32 (ml .u32 (partW B k x i) 256) (cv .u32 (B (4 * k + i))) = partW B k x (i + 1) := by
  have g0 := hb (4 * k)
  have g1 := hb (4 * k + 1)
  have g2 := hb (4 * k + 2)
  have g3 := hb (4 * k + 3)
  rw [ad32, ml32, cv32]
  rcases (by omega : i = 0 ∨ i = 1 ∨ i = 2 ∨ i = 3) with rfl | rfl | rfl | rfl
  · rw [show partW B k x 0 = 0 from rfl, show partW B k x (0 + 1) = B (4 * k) from rfl, Nat.add_zero]; omega
  · rw [show partW B k x 1 = B (4 * k) from rfl, show partW B k x (1 + 1) = B (4 * k) * 256 + B (4 * k + 1) from rfl]; omega
  · rw [show partW B k x 2 = B (4 * k) * 256 + B (4 * k + 1) from rfl, show partW B k x (2 + 1) = B (4 * k) * 65536 + B (4 * k + 1) * 256 + B (4 * k + 2) from rfl]; omega
  · rw [show partW B k x 3 = B (4 * k) * 65536 + B (4 * k + 1) * 256 + B (4 * k + 2) from rfl, show partW B k x (3 + 1) = x from rfl, hx]; omega
theorem words_ref (P : ByteArray) (m : Nat) (d6 d7 d8 : D) (hm : 64 * m + 64 ≤ P.size) (hsz : P.size ≤ 2000000) (K : F44.X9 → Option D) (R : Option D) (hK : K (.e0 (dS P) ((64 * m : Nat) : Int) 64 d6 d7 d8 (w32 (wl (fun j => byteAt P (64 * m + j)) 64))) = R) :
    goS (F44.st9 FUEL) FUEL ⟨dS P, ((64 * m : Nat) : Int), 0, d6, d7, d8, w32 (List.replicate 64 0)⟩ K = R := by
  have hb : bytesB fun j => byteAt P (64 * m + j) := byte_b P _
  generalize hB : (fun j => byteAt P (64 * m + j)) = B at hb hK
  have hBj : ∀ j, byteAt P (64 * m + j) = B j := fun j => by rw [← hB]
  refine goS_rule (fun t : F44.S9 => ∃ k : Nat, t = ⟨dS P, ((64 * m : Nat) : Int), (k : Int), d6, d7, d8, w32 (wl B k)⟩ ∧ k ≤ 64) (fun t => 64 - t.i11.toNat) (fun o => o = R) ?_ _ _ ⟨0, rfl, by omega⟩ (by simp [FUEL])
  rintro _ rec ⟨k, rfl, hk⟩ hrec
  simp only [F44.st9]
  have hwl := wl_len B k
  by_cases h1 : k < 64
  · have hadd : ad .i64 (k : Int) 1 = ((k + 1 : Nat) : Int) := by rw [ad64 (by omega) (by omega)]; rfl
    refine ct (by simp; omega) ?_
    by_cases h2 : k < 16
    · refine ct (by simp; omega) ?_
      have hwx : wv B k (wl B k) = B (4 * k) * 16777216 + B (4 * k + 1) * 65536 + B (4 * k + 2) * 256 + B (4 * k + 3) := by rw [wv, if_pos h2]
      generalize hX : wv B k (wl B k) = X at hwx
      refine goS_rule (fun t : F44.S13 => ∃ i : Nat, t = ⟨dS P, ((64 * m : Nat) : Int), (k : Int), (i : Int), d6, d7, d8, w32 ((wl B k).set k (partW B k X i))⟩ ∧ i ≤ 4) (fun t => 4 - t.i19.toNat) (fun o => o = R) ?_ _ _ ⟨0, ?_, by omega⟩ (by simp [FUEL])
      · rintro _ rec2 ⟨i, rfl, hi⟩ hrec2
        simp only [F44.st13]
        by_cases h3 : i < 4
        · have hm4 : ml .i64 4 (k : Int) = ((4 * k : Nat) : Int) := by rw [ml64 (by omega) (by omega)]; omega
          have ha1 : ad .i64 ((64 * m : Nat) : Int) ((4 * k : Nat) : Int) = ((64 * m + 4 * k : Nat) : Int) := by rw [ad64 (by omega) (by omega)]; omega
          have ha2 : ad .i64 ((64 * m + 4 * k : Nat) : Int) (i : Int) = ((64 * m + (4 * k + i) : Nat) : Int) := by rw [ad64 (by omega) (by omega)]; omega
          have hadd2 : ad .i64 (i : Int) 1 = ((i + 1 : Nat) : Int) := by rw [ad64 (by omega) (by omega)]; rfl
          have hP : (dS P).s = P := rfl
          rw [hm4, ha1, ha2, hadd2, hP]
          simp only [Int.toNat_natCast]
          rw [w32_at (by simp [hwl]; omega), w32_set, List.set_set, hBj, i_int]
          have hg : ((wl B k).set k (partW B k X i)).getD k 0 = partW B k X i := by
            rw [List.getD_eq_getElem?_getD, List.getElem?_set_self (by omega)]; rfl
          have hst := partW_step hb h3 X hwx
          rw [hg, hst]
          exact ct (by simp; omega) (ct (by simp; omega) (ct (by rw [inb_t]; omega) (ct (by simp; omega) (hrec2 _ ⟨i + 1, rfl, by omega⟩ (by simp; omega)))))
        · refine cf (by simp; omega) ?_
          have : i = 4 := by omega
          subst this
          rw [show partW B k X 4 = X from rfl, hadd, ← hX]
          exact hrec _ ⟨k + 1, rfl, by omega⟩ (by simp; omega)
      · have hz := wl_zero B k k (Nat.le_refl _) h1
        have e : (wl B k).set k (partW B k X 0) = wl B k := by
          rw [show partW B k X 0 = 0 from rfl]
          rw [List.getD_eq_getElem?_getD, List.getElem?_eq_getElem (by omega)] at hz
          have hz' : (wl B k)[k]'(by omega) = 0 := hz
          conv => lhs; rw [← hz']
          rw [List.set_getElem_self]
        rw [e]
        rfl
    · have hs15 : sb .i64 (k : Int) 15 = ((k - 15 : Nat) : Int) := by rw [sb64 (by omega) (by omega)]; omega
      have hs2 : sb .i64 (k : Int) 2 = ((k - 2 : Nat) : Int) := by rw [sb64 (by omega) (by omega)]; omega
      have hs16 : sb .i64 (k : Int) 16 = ((k - 16 : Nat) : Int) := by rw [sb64 (by omega) (by omega)]; omega
      have hs7 : sb .i64 (k : Int) 7 = ((k - 7 : Nat) : Int) := by rw [sb64 (by omega) (by omega)]; omega
      have hu := wl_u32 hb k
      have hx := allU_get hu (k - 15)
      have hy := allU_get hu (k - 2)
      obtain ⟨r7, r18, r17, r19, _⟩ := rr_ref hx
      obtain ⟨_, _, q17, q19, _⟩ := rr_ref hy
      have s10 := shift_ref hy 10 (by omega)
      have s3 := shift_ref hx 3 (by omega)
      rw [hs15, hs2, hs16, hs7]
      simp only [Int.toNat_natCast]
      rw [w32_at (by omega), w32_at (by omega), w32_at (by omega), w32_at (by omega)]
      refine cf (by simp; omega) (ct (by simp; omega) (ct (by simp; omega) (bdS q17 (bdS q19 (bdS s10 (ct (by simp; omega) (bdS r7 (bdS r18 (bdS s3 (ct (by simp; omega) (ct (by simp; omega) ?_)))))))))))
      rw [hadd, w32_set]
      have e : (wl B k).set k (ad .u32 (ad .u32 (ad .u32 (xorI .u32 (xorI .u32 (rI ((wl B k).getD (k - 2) 0) 17) (rI ((wl B k).getD (k - 2) 0) 19)) ((((wl B k).getD (k - 2) 0).toNat / 2 ^ 10 : Nat) : Int)) ((wl B k).getD (k - 7) 0)) (xorI .u32 (xorI .u32 (rI ((wl B k).getD (k - 15) 0) 7) (rI ((wl B k).getD (k - 15) 0) 18)) ((((wl B k).getD (k - 15) 0).toNat / 2 ^ 3 : Nat) : Int))) ((wl B k).getD (k - 16) 0)) = wl B (k + 1) := by
        rw [wl]
        congr 1
        rw [wv, if_neg h2, ad32, ad32, ad32]
        unfold S0 S1
        omega
      simp only [i_int]
      rw [e]
      exact hrec _ ⟨k + 1, rfl, by omega⟩ (by simp; omega)
  · refine cf (by simp; omega) ?_
    have : k = 64 := by omega
    subst this
    exact hK
theorem round_ref (P : ByteArray) (i31 : Int) (h W : List Int) (hh : h.length = 8) (hu : allU h) (hWl : W.length = 64) (d33 d34 : D) (K : F44.X21 → Option D) (R : Option D) (hK : K (.e0 (dS P) i31 64 d33 d34 (w32 K0) (w32 W) (w32 (vl h W 64))) = R) :
    goS (F44.st21 FUEL) FUEL ⟨dS P, i31, 0, d33, d34, w32 K0, w32 W, w32 h⟩ K = R := by
  refine goS_rule (fun t : F44.S21 => ∃ j : Nat, t = ⟨dS P, i31, (j : Int), d33, d34, w32 K0, w32 W, w32 (vl h W j)⟩ ∧ j ≤ 64) (fun t => 64 - t.i32.toNat) (fun o => o = R) ?_ _ _ ⟨0, rfl, by omega⟩ (by simp [FUEL])
  rintro _ rec ⟨j, rfl, hj⟩ hrec
  simp only [F44.st21]
  have hvl := vl_len (w := W) hh j
  by_cases h1 : j < 64
  · have hadd : ad .i64 (j : Int) 1 = ((j + 1 : Nat) : Int) := by rw [ad64 (by omega) (by omega)]; rfl
    have hvu := vl_u32 (w := W) hu j
    have hst : vl h W (j + 1) = rnd (K0.getD j 0) (W.getD j 0) (vl h W j) := rfl
    obtain ⟨a, b, c, d, e, f, g, i, hv⟩ := list8 hvl
    have he : u32 e := hvu e (by rw [hv]; simp)
    have ha : u32 a := hvu a (by rw [hv]; simp)
    obtain ⟨_, _, _, _, r6, r11, r25, _⟩ := rr_ref he
    obtain ⟨_, _, _, _, _, _, _, r2, r13, r22⟩ := rr_ref ha
    have hK : j < K0.length := by show j < 64; omega
    rw [hadd]
    simp only [Int.toNat_natCast]
    rw [w32_at hK, w32_at (l := W) (by omega)]
    rw [hv] at hst ⊢
    refine ct (by simp; omega) (bdS r6 (bdS r11 (bdS r25 (ct (by simp; omega) (ct (by simp; omega) (bdS r2 (bdS r13 (bdS r22 ?_))))))))
    refine hrec _ ⟨j + 1, ?_, by omega⟩ (by simp; omega)
    rw [hst]
    rfl
  · refine cf (by simp; omega) ?_
    have : j = 64 := by omega
    subst this
    exact hK
theorem add_ref (P : ByteArray) (i45 : Int) (h V : List Int) (hh : h.length = 8) (hV : V.length = 8) (d47 d49 d50 : D) (K : F44.X30 → Option D) (R : Option D) (hK : K (.e0 (dS P) i45 8 d47 (w32 (al h V 8)) d49 d50 (w32 V)) = R) :
    goS (F44.st30 FUEL) FUEL ⟨dS P, i45, 0, d47, w32 h, d49, d50, w32 V⟩ K = R := by
  refine goS_rule (fun t : F44.S30 => ∃ j : Nat, t = ⟨dS P, i45, (j : Int), d47, w32 (al h V j), d49, d50, w32 V⟩ ∧ j ≤ 8) (fun t => 8 - t.i46.toNat) (fun o => o = R) ?_ _ _ ⟨0, rfl, by omega⟩ (by simp [FUEL])
  rintro _ rec ⟨m, rfl, hm⟩ hrec2
  simp only [F44.st30]
  have hal := al_len h V m
  by_cases h2 : m < 8
  · have hadd : ad .i64 (m : Int) 1 = ((m + 1 : Nat) : Int) := by rw [ad64 (by omega) (by omega)]; rfl
    refine ct (by simp; omega) (ct (by simp; omega) (ct (by simp; omega) (ct (by simp; omega) ?_)))
    rw [hadd, w32_set, Int.toNat_natCast, w32_at (by omega), w32_at (by omega)]
    exact hrec2 _ ⟨m + 1, rfl, by omega⟩ (by simp; omega)
  · refine cf (by simp; omega) ?_
    have : m = 8 := by omega
    subst this
    exact hK
theorem shift8 (x : Nat) (n : Nat) : quoI .u32 ((x / 256 ^ n : Nat) : Int) 256 = cv .u32 ((x / 256 ^ (n + 1) : Nat) : Int) := by
  unfold quoI cv
  have e1 : ((x / 256 ^ n : Nat) : Int).tdiv 256 = ((x / 256 ^ n / 256 : Nat) : Int) := rfl
  rw [e1, Nat.div_div_eq_div_mul, ← Nat.pow_succ]
theorem out_ref {h : List Int} (hu : allU h) (hl8 : h.length = 8) (d53 d55 : D) (z : D) (hz : z = sumD zeros) (K : F44.X35 → Option D) (hK : ∀ i d53 d54 d55 d56, K (.e0 i d53 d54 d55 d56) = some d56) :
    goS (F44.st35 FUEL) FUEL ⟨0, d53, w32 h, d55, z⟩ K = some (sumD (ol h 32)) := by
  subst hz
  obtain ⟨R, hR⟩ : ∃ R, R = sumD (ol h 32) := ⟨_, rfl⟩
  rw [← hR]
  refine goS_rule (fun s : F44.S35 => ∃ k : Nat, s = ⟨(k : Int), d53, w32 h, d55, sumD (ol h k)⟩ ∧ k ≤ 32) (fun s => 32 - s.i52.toNat) (fun o => o = some R) ?_ _ _ ⟨0, rfl, by omega⟩ (by simp [FUEL])
  rintro _ rec2 ⟨k, rfl, hk⟩ hrec2
  simp only [F44.st35]
  by_cases hk2 : k < 32
  · have hadd : ad .i64 (k : Int) 1 = ((k + 1 : Nat) : Int) := by rw [ad64 (by omega) (by omega)]; rfl
    have hrem : remI (k : Int) 4 = ((k % 4 : Nat) : Int) := tmod_nat k 4
    have hg := allU_get hu (k / 4)
    refine ct (by simp; omega) (ct (by rw [quo4 k hk2]; simp; omega) ?_)
    rw [quo4 k hk2, hrem, Int.toNat_natCast, w32_at (by omega)]
    obtain ⟨x, hx⟩ : ∃ x : Nat, (h.getD (k / 4) 0) = x := ⟨(h.getD (k / 4) 0).toNat, by unfold u32 at hg; omega⟩
    have hxl : x < 4294967296 := by unfold u32 at hg; omega
    have hobx : ob h k = ((x / 256 ^ (3 - k % 4) % 256 : Nat) : Int) := by unfold ob; rw [hx]; rfl
    rw [hx]
    refine goS_rule (fun s : F44.S39 => ∃ n : Nat, s = ⟨(k : Int), D.int .u32 ((x / 256 ^ n : Nat) : Int), ((k % 4 + n : Nat) : Int), d53, w32 h, d55, sumD (ol h k)⟩ ∧ k % 4 + n ≤ 3) (fun s => 3 - s.i59.toNat) (fun o => o = some R) ?_ _ _ ⟨0, by simp, by omega⟩ (by simp [FUEL]; omega)
    rintro _ rec3 ⟨n, rfl, hn⟩ hrec3
    simp only [F44.st39]
    by_cases h3 : k % 4 + n < 3
    · have hadd3 : ad .i64 ((k % 4 + n : Nat) : Int) 1 = ((k % 4 + (n + 1) : Nat) : Int) := by rw [ad64 (by omega) (by omega)]; omega
      refine ct (by simp; omega) ?_
      rw [i_int, shift8, hadd3, cv32]
      have : ((x / 256 ^ (n + 1) : Nat) : Int) % 4294967296 = ((x / 256 ^ (n + 1) : Nat) : Int) := by
        have := Nat.div_le_self x (256 ^ (n + 1))
        generalize x / 256 ^ (n + 1) = q at this
        omega
      rw [this]
      exact hrec3 _ ⟨n + 1, rfl, by omega⟩ (by simp; omega)
    · refine cf (by simp; omega) ?_
      have hn3 : n = 3 - k % 4 := by omega
      have hr : remI ((x / 256 ^ n : Nat) : Int) 256 = ((x / 256 ^ n % 256 : Nat) : Int) := rfl
      rw [i_int, hr, cv8, Nat.mod_mod, hn3, ← hobx, hadd, Int.toNat_natCast]
      refine ct (by simp; omega) ?_
      have e : D.agg ((sumD (ol h k)).parts.set k (D.int .u8 (ob h k))) = sumD (ol h (k + 1)) := by
        rw [ol]
        unfold sumD
        rw [List.map_set]
        rfl
      rw [e]
      exact hrec2 _ ⟨k + 1, rfl, by omega⟩ (by simp; omega)
  · refine cf (by simp; omega) ?_
    have : k = 32 := by omega
    subst this
    rw [hK, hR]
theorem ref_of (b : ByteArray) (hb : b.size ≤ 1000000) : F44.s FUEL b = some (sumD (shaV b)) := by
  unfold F44.s
  rw [roots_spec, bd_some, cubes_spec, bd_some, pad_ref b hb, bd_some]
  have h64 := padV_64 b
  have hsz := padV_size b
  have hz : padZ b.size < 64 := by unfold padZ; omega
  unfold shaV
  generalize padV b = P at h64 hsz
  generalize hM : P.size / 64 = M
  have hPM : P.size = 64 * M := by omega
  obtain ⟨R, hR⟩ : ∃ R, R = sumD (ol (hv P M) 32) := ⟨_, rfl⟩
  rw [← hR]
  refine goS_rule (fun s : F44.S5 => ∃ m : Nat, s = ⟨dS P, ((64 * m : Nat) : Int), da (rp 32 (D.int .u8 0)), w32 (hv P m), w32 K0⟩ ∧ m ≤ M) (fun s => M - s.i5.toNat / 64) (fun o => o = some R) ?_ _ _ ⟨0, rfl, by omega⟩ (by simp [FUEL]; omega)
  rintro _ rec ⟨m, rfl, hm⟩ hrec
  simp only [F44.st5]
  have hP : (dS P).s = P := rfl
  rw [hP]
  by_cases h0 : m < M
  · refine ct (by simp; omega) ?_
    have hw0 : da (rp 64 (D.int .u32 0)) = w32 (List.replicate 64 0) := by kernel_rfl
    rw [hw0]
    refine words_ref P m _ _ _ (by omega) (by omega) _ _ ?_
    dsimp only
    refine round_ref P _ (hv P m) _ (hv_len P m) (hv_u32 P m) (wl_len _ _) _ _ _ _ ?_
    dsimp only
    refine add_ref P _ (hv P m) _ (hv_len P m) (vl_len (hv_len P m) 64) _ _ _ _ _ ?_
    dsimp only
    have hadd : ad .i64 ((64 * m : Nat) : Int) 64 = ((64 * (m + 1) : Nat) : Int) := by rw [ad64 (by omega) (by omega)]; omega
    rw [hadd]
    exact hrec ⟨dS P, ((64 * (m + 1) : Nat) : Int), da (rp 32 (D.int .u8 0)), w32 (hv P (m + 1)), w32 K0⟩ ⟨m + 1, rfl, by omega⟩ (by simp; omega)
  · have hmM : m = M := by omega
    subst hmM
    refine cf (by simp; omega) ?_
    rw [hR]
    exact out_ref (hv_u32 P m) (hv_len P m) _ _ _ (by kernel_rfl) _ (fun _ _ _ _ _ => rfl)
theorem sha_ref (b : ByteArray) (hb : b.size ≤ 1000000) : F44.s FUEL b = some (sumD (shaL b)) := by
  rw [ref_of b hb, ← real_of b hb, sha_spec b hb]
end Go.AM.SZ
namespace Go.AM.SZ
open Go Go.AM
theorem zeroEv_enc : zeroEv.enc = da [(di 0), (di 0), (dS (bs [])), (di 0), (di 0), (da (rp 32 (D.int .u8 0)))] := by kernel_rfl
theorem zeros_enc : da (rp 32 (D.int .u8 0)) = sumD zeros := by kernel_rfl
theorem file_ref (f : Fl) (b : Bool) (o : Mo) (floor last : Int) (hf : FlOk f last) (ho : MoOk o) : ∃ c, F57.s FUEL (nnd f b).enc o.enc floor = some (.tup [(nnd (fileDo shaL f o floor).1 c).enc, (fileDo shaL f o floor).2.1.enc, di (fileDo shaL f o floor).2.2]) := by
  have h1 := hf.data
  have h2 := ho.text
  have h3 := hf.hold
  have hsz : ∀ x ∈ f.holds, x.size ≤ 1048576 := fun x hx => by have := hf.hsz x hx; omega
  unfold F57.s
  have k0 : (o.enc.at 0).i = o.kind := rfl
  have e2 : (o.enc.at 2).s = o.text := rfl
  have e3 : (o.enc.at 3).i = o.time := rfl
  have e4 : ((nnd f b).enc.at 2).s = f.data := rfl
  have a0 : o.enc.at 0 = di o.kind := rfl
  have a2 : o.enc.at 2 = dS o.text := rfl
  have a3 : o.enc.at 3 = di o.time := rfl
  have f0 : (nnd f b).enc.at 0 = di f.id := rfl
  rw [k0, e2, e3, e4, a0, a2, a3, f0, ← zeroEv_enc, zeros_enc]
  have key : ∀ (g : Fl) (c : Bool) (e : Int) (ev : Ev), deedF f o floor = (g, e) → ev = tellE shaL f o →
      ∃ c', (cond (neI e 0) (some (D.tup [(nnd f b).enc, zeroEv.enc, di e])) (some (D.tup [(nnd g c).enc, ev.enc, di 0]))) = some (.tup [(nnd (fileDo shaL f o floor).1 c').enc, (fileDo shaL f o floor).2.1.enc, di (fileDo shaL f o floor).2.2]) := by
    intro g c e ev hd hev
    unfold fileDo
    rw [hd]
    by_cases he : e = 0
    · subst he
      refine ⟨c, ?_⟩
      rw [if_pos rfl, ← hev]
      exact cf (by simp) rfl
    · refine ⟨b, ?_⟩
      rw [if_neg (by simpa using he)]
      exact ct (by simpa using he) rfl
  by_cases h0 : o.kind = 0
  · refine ⟨b, ct (by simpa using h0) ?_⟩
    have hd : deedF f o floor = (f, 4) := by unfold deedF; rw [if_pos h0]
    unfold fileDo
    rw [hd, if_neg (by simp)]
  refine (fun ⟨c, hc⟩ => ⟨c, cf (by simpa using h0) hc⟩ : (∃ c, _ = _) → _) ?_
  by_cases h1 : o.kind = 1
  · have hd : deedF f o floor = appendF f o.text := by unfold deedF; rw [if_neg h0, if_pos h1]
    obtain ⟨c', hc'⟩ := key (appendF f o.text).1 b (appendF f o.text).2 ⟨o.kind, f.id, bs [], 0, (o.text.size : Int), zeros⟩ hd (by unfold tellE; simp [h1])
    exact ⟨c', ct (by simpa using h1) (bdS (append_ref f b o.text (by omega) (by omega)) hc')⟩
  refine (fun ⟨c, hc⟩ => ⟨c, cf (by simpa using h1) hc⟩ : (∃ c, _ = _) → _) ?_
  by_cases h2 : o.kind = 2
  · have hd : deedF f o floor = sealF f o.time := by unfold deedF; rw [if_neg h0, if_neg h1, if_pos h2]
    obtain ⟨c', hc'⟩ := key (sealF f o.time).1 b (sealF f o.time).2 ⟨o.kind, f.id, bs [], o.time, (f.data.size : Int), shaL f.data⟩ hd (by unfold tellE; simp [h2])
    have hev : Ev.enc ⟨o.kind, f.id, bs [], o.time, (f.data.size : Int), shaL f.data⟩ = da [di o.kind, di f.id, dS (bs []), di o.time, di (nI f.data.size), sumD (shaL f.data)] := by generalize shaL f.data = z; rfl
    rw [hev] at hc'
    exact ⟨c', ct (by simpa using h2) (bdS (seal_ref f b o.time) (bdS (sha_ref f.data (by omega)) hc'))⟩
  refine (fun ⟨c, hc⟩ => ⟨c, cf (by simpa using h2) hc⟩ : (∃ c, _ = _) → _) ?_
  by_cases h3 : o.kind = 3
  · have hd : deedF f o floor = extendF f o.time := by unfold deedF; rw [if_neg h0, if_neg h1, if_neg h2, if_pos h3]
    obtain ⟨c', hc'⟩ := key (extendF f o.time).1 b (extendF f o.time).2 ⟨o.kind, f.id, bs [], o.time, 0, zeros⟩ hd (by unfold tellE; simp [h3])
    exact ⟨c', ct (by simpa using h3) (bdS (extend_ref f b o.time) hc')⟩
  refine (fun ⟨c, hc⟩ => ⟨c, cf (by simpa using h3) hc⟩ : (∃ c, _ = _) → _) ?_
  by_cases h4 : o.kind = 4
  · have hd : deedF f o floor = holdF f o.text := by unfold deedF; rw [if_neg h0, if_neg h1, if_neg h2, if_neg h3, if_pos h4]
    obtain ⟨c, hc⟩ := hold_ref f b o.text (by omega) (by omega) hsz
    obtain ⟨c', hc'⟩ := key (holdF f o.text).1 c (holdF f o.text).2 ⟨o.kind, f.id, o.text, 0, 0, zeros⟩ hd (by unfold tellE; simp [h4])
    exact ⟨c', ct (by simpa using h4) (bdS hc hc')⟩
  refine (fun ⟨c, hc⟩ => ⟨c, cf (by simpa using h4) hc⟩ : (∃ c, _ = _) → _) ?_
  by_cases h5 : o.kind = 5
  · have hd : deedF f o floor = releaseF f o.text := by unfold deedF; rw [if_neg h0, if_neg h1, if_neg h2, if_neg h3, if_neg h4, if_pos h5]
    obtain ⟨c, hc⟩ := release_ref f b o.text (by omega)
    obtain ⟨c', hc'⟩ := key (releaseF f o.text).1 c (releaseF f o.text).2 ⟨o.kind, f.id, o.text, 0, 0, zeros⟩ hd (by unfold tellE; simp [h5])
    exact ⟨c', ct (by simpa using h5) (bdS hc hc')⟩
  refine (fun ⟨c, hc⟩ => ⟨c, cf (by simpa using h5) hc⟩ : (∃ c, _ = _) → _) ?_
  by_cases h6 : o.kind = 6
  · have hd : deedF f o floor = (zeroF, mayN f floor) := by unfold deedF; rw [if_neg h0, if_neg h1, if_neg h2, if_neg h3, if_neg h4, if_neg h5, if_pos h6]
    obtain ⟨c', hc'⟩ := key zeroF false (mayN f floor) ⟨o.kind, f.id, bs [], 0, 0, zeros⟩ hd (by unfold tellE; simp [h6])
    exact ⟨c', ct (by simpa using h6) (bdS (may_ref f b floor) hc')⟩
  refine ⟨b, cf (by simpa using h6) ?_⟩
  have hd : deedF f o floor = (f, 1) := by unfold deedF; rw [if_neg h0, if_neg h1, if_neg h2, if_neg h3, if_neg h4, if_neg h5, if_neg h6]
  unfold fileDo
  rw [hd, if_neg (by simp)]
def SimL (l l' : List Fl) : Prop := l'.map (fun f => nnd f true) = l.map (fun f => nnd f true)
theorem SimL.len {l l' : List Fl} (h : SimL l l') : l'.length = l.length := by
  have := congrArg List.length h
  simpa using this
theorem nnd_eq {f g : Fl} (h : nnd g true = nnd f true) : g = nnd f g.nn := by
  cases f; cases g
  simp only [nnd, Fl.mk.injEq] at h ⊢
  exact ⟨h.1, h.2.1, h.2.2.1, h.2.2.2.1, h.2.2.2.2.1, trivial, h.2.2.2.2.2.2⟩
theorem SimL.get {l l' : List Fl} (h : SimL l l') {i : Nat} (hi : i < l.length) (hi' : i < l'.length) : l'[i] = nnd l[i] l'[i].nn := by
  refine nnd_eq ?_
  have h1 : (l'.map (fun f => nnd f true))[i]? = (l.map (fun f => nnd f true))[i]? := by rw [h]
  rw [List.getElem?_map, List.getElem?_map, List.getElem?_eq_getElem hi, List.getElem?_eq_getElem hi'] at h1
  exact Option.some.inj h1
theorem SimL.refl (l : List Fl) : SimL l l := rfl
theorem findI_map {α β : Type} {g : α → β} {p : β → Bool} (l : List α) : findI p (l.map g) = findI (fun x => p (g x)) l := by
  unfold findI
  rw [List.findIdx?_map]
  rfl
theorem SimL.find {l l' : List Fl} (h : SimL l l') (n : ByteArray) : findI (fun f : Fl => decide (f.name = n)) l' = findI (fun f : Fl => decide (f.name = n)) l := by
  have h1 : findI (fun f : Fl => decide (f.name = n)) (l'.map (fun f => nnd f true)) = findI (fun f : Fl => decide (f.name = n)) (l.map (fun f => nnd f true)) := by rw [h]
  rw [findI_map, findI_map] at h1
  exact h1
theorem SimL.names {l l' : List Fl} (h : SimL l l') : l'.map (·.name) = l.map (·.name) := by
  have h1 : (l'.map (fun f => nnd f true)).map (·.name) = (l.map (fun f => nnd f true)).map (·.name) := by rw [h]
  rw [List.map_map, List.map_map] at h1
  exact h1
structure SimS (s s' : St) : Prop where
  files : SimL s.files s'.files
  last : s'.last = s.last
  floor : s'.floor = s.floor
structure SimA (a a' : An) : Prop where
  err : a'.err = a.err
  n : a'.n = a.n
  text : a'.text = a.text
  file : nnd a'.file true = nnd a.file true
  names : a'.names = a.names
structure SimR (r r' : Res) : Prop where
  st : SimS r.st r'.st
  an : SimA r.an r'.an
  evs : r'.evs = r.evs
theorem SimA.refl (a : An) : SimA a a := ⟨rfl, rfl, rfl, rfl, rfl⟩
theorem find_ref (s : St) (n : ByteArray) (hl : s.files.length ≤ 1000) : F50.s FUEL s.enc n = some (di (findI (fun f : Fl => decide (f.name = n)) s.files)) := by
  unfold F50.s
  have h0 : s.enc.at 0 = dl s.nn (s.files.map Fl.enc) := rfl
  refine goS_rule (fun t : F50.S2 => ∃ k : Nat, t = ⟨n, (k : Int), s.enc⟩ ∧ k ≤ s.files.length ∧ ∀ i (h : i < s.files.length), i < k → decide (s.files[i].name = n) = false) (fun t => s.files.length - t.i2.toNat) (fun o => o = some (di (findI (fun f : Fl => decide (f.name = n)) s.files))) ?_ _ _ ⟨0, rfl, by omega, by omega⟩ (by simp [FUEL]; omega)
  rintro _ rec ⟨k, rfl, hk, hs⟩ hrec
  simp only [F50.st2, h0]
  by_cases h1 : k < s.files.length
  · have hadd : ad .i64 (k : Int) 1 = ((k + 1 : Nat) : Int) := by rw [ad64 (by omega) (by omega)]; rfl
    refine ct (by simp; omega) (ct (by simp; omega) ?_)
    simp only [elems_slice, Int.toNat_natCast, ix_map h1]
    have hnm : (s.files[k].enc.at 1).s = s.files[k].name := rfl
    rw [hnm, hadd]
    by_cases h2 : s.files[k].name = n
    · refine ct (by simpa using h2) ?_
      rw [findI_some (findIdx_some_of h1 (fun i hi hik => hs i hi hik) (by simp [h2]))]
    · refine cf (by simpa using h2) ?_
      refine hrec _ ⟨k + 1, rfl, by omega, fun i hi hik => ?_⟩ (by simp; omega)
      by_cases h3 : i = k
      · subst h3; simpa using h2
      · exact hs i hi (by omega)
  · refine cf (by simp; omega) ?_
    rw [findI_none (findIdx_none_of fun i hi => hs i hi (by omega))]
theorem floor_ref (f t : Int) : F53.s FUEL f t = some (di (max f (min (max t 0) 1099511627776))) := by
  unfold F53.s
  by_cases h1 : t < 0
  · refine ct (by simpa using h1) ?_
    by_cases h2 : f < 0
    · refine ct (by simpa using h2) ?_
      congr 2; omega
    · refine cf (by simp; omega) ?_
      congr 2; omega
  refine cf (by simp; omega) ?_
  by_cases h2 : 1099511627776 < t
  · refine ct (by simpa using h2) ?_
    by_cases h3 : f < 1099511627776
    · refine ct (by simpa using h3) ?_
      congr 2; omega
    · refine cf (by simp; omega) ?_
      congr 2; omega
  refine cf (by simp; omega) ?_
  by_cases h3 : f < t
  · refine ct (by simpa using h3) ?_
    congr 2; omega
  · refine cf (by simp; omega) ?_
    congr 2; omega
theorem new_ref (id : Int) (s : ByteArray) (hs : s.size ≤ 1048576) : F52.s FUEL id s = some (.tup [(newF id s).1.enc, di (newF id s).2]) := by
  unfold F52.s newF
  refine bdS (valid_ref s hs) ?_
  by_cases h1 : nameB s = false
  · rw [if_pos h1]; exact ct (by rw [h1]; rfl) rfl
  rw [if_neg h1]
  refine cf (by simpa using h1) ?_
  by_cases h2 : id < 1
  · rw [if_neg (by omega)]; exact ct (by simpa using h2) rfl
  refine cf (by simp; omega) ?_
  by_cases h3 : 1099511627776 < id
  · rw [if_neg (by omega)]; exact ct (by simpa using h3) rfl
  rw [if_pos (by omega)]
  exact cf (by simp; omega) rfl
theorem with_ref (s : St) (i : Nat) (hi : i < s.files.length) (hl : s.files.length ≤ 1000) (g : Fl) (gone : Bool) : ∃ b, F58.s FUEL s.enc (i : Int) g.enc gone = some (St.enc ⟨b, if gone = true then s.files.eraseIdx i else s.files.set i g, s.last, s.floor⟩) := by
  unfold F58.s
  have h0 : s.enc.at 0 = dl s.nn (s.files.map Fl.enc) := rfl
  have hml : (s.files.map Fl.enc).length = s.files.length := List.length_map _
  have hadd : ad .i64 (i : Int) 1 = ((i + 1 : Nat) : Int) := by rw [ad64 (by omega) (by omega)]; rfl
  rw [h0]
  simp only [elems_slice, hadd, Int.toNat_natCast]
  cases gone with
  | true =>
    refine ⟨((!(((s.files.map Fl.enc).drop 0).take (i - 0)).isEmpty) || (!(((s.files.map Fl.enc).drop (i + 1)).take ((s.files.map Fl.enc).length - (i + 1))).isEmpty)), ?_⟩
    rw [del_take (by rw [hml]; exact hi), eraseIdx_map']
    exact ct (by simp; omega) (ct (by simp; omega) (cf rfl (ct (by simp; omega) (ct (by simp; omega) rfl))))
  | false =>
    refine ⟨true, ?_⟩
    have e : ∀ (l : List D) (x : D), i < l.length → ((ap (((ap ((((l.drop 0).take (i - 0)).drop 0).take ((l.drop 0).take (i - 0)).length) [x]).drop 0).take (((l.drop 0).take (i - 0)).length + 1)) ((l.drop (i + 1)).take (l.length - (i + 1)))).drop 0).take ((((l.drop 0).take (i - 0)).length + 1) + ((l.drop (i + 1)).take (l.length - (i + 1))).length) = l.set i x := by
      intro l x hl
      have h1 : (l.drop (i + 1)).take (l.length - (i + 1)) = l.drop (i + 1) := List.take_of_length_le (by simp)
      rw [h1]
      have h2 : ((l.drop 0).take (i - 0)) = l.take i := by simp
      rw [h2]
      have h3 : (((l.take i).drop 0).take (l.take i).length) = l.take i := by rw [List.drop_zero, List.take_length]
      rw [h3]
      unfold ap
      rw [List.drop_zero, List.drop_zero, List.take_of_length_le (by simp), List.take_of_length_le (by simp), List.set_eq_take_append_cons_drop, if_pos hl]
      simp
    rw [e _ _ (by rw [hml]; exact hi), List.map_set.symm, Bool.or_true, Bool.true_or]
    exact ct (by simp; omega) (ct (by simp; omega) (ct rfl (ct (by simp; omega) (ct (by simp; omega) (ct (by simp; omega) rfl)))))
end Go.AM.SZ
