/- Part 11 of the proof: the abstract machine, what the functions compute, and plain laws over that. -/
import Derived.Test.YtonknblidjpfeaaGreatDoorMz10
set_option linter.all false
set_option linter.unusedSimpArgs false
set_option linter.unusedVariables false
set_option linter.unusedSectionVars false
namespace Go.AM.SZ
open Go Go.AM
theorem bd_some {x : D} {f : D → Option D} : bd (some x) f = f x := rfl
def w32 (l : List Int) : D := da (l.map (D.int .u32))
theorem w32_set (l : List Int) (i : Nat) (x : Int) : D.agg ((w32 l).parts.set i (D.int .u32 x)) = w32 (l.set i x) := by
  show D.agg ((l.map (D.int .u32)).set i (D.int .u32 x)) = _
  rw [w32, List.map_set]
theorem u64_nonneg (n : Int) : 0 ≤ IntKind.wrap .u64 n := by
  simp [IntKind.wrap, IntKind.signed, IntKind.bits]; omega
theorem right_spec (x n : Int) : ∃ r, F133.s FUEL x n = some (D.int .u32 r) := by
  have h1 : 0 ≤ andI .u64 (cv .u64 (sb .i64 0 n)) 31 := u64_nonneg _
  have h2 : 0 ≤ sb .u64 32 (andI .u64 (cv .u64 (sb .i64 0 n)) 31) := u64_nonneg _
  refine ⟨orI .u32 (shlI .u32 x (andI .u64 (cv .u64 (sb .i64 0 n)) 31).toNat) (shrI .u32 x (sb .u64 32 (andI .u64 (cv .u64 (sb .i64 0 n)) 31)).toNat), ?_⟩
  unfold F133.s F146.s
  rw [if_neg (by omega), if_neg (by omega)]
  rfl
theorem ml64 {a b : Int} (h1 : -9223372036854775808 ≤ a * b) (h2 : a * b ≤ 9223372036854775807) : ml .i64 a b = a * b := by
  have := ad64 (a := a * b) (b := 0) (by omega) (by omega)
  simpa [ad, ml] using this
theorem words_spec (s : ByteArray) (hs : s.size = 64) : ∃ w : List Int, F132.s FUEL s = some (w32 w) ∧ w.length = 64 := by
  unfold F132.s
  refine goS_rule (fun t => ∃ (k : Nat) (d3 : D) (w : List Int), t = ⟨s, (k : Int), d3, w32 w⟩ ∧ k ≤ 64 ∧ w.length = 64) (fun t => 64 - t.i2.toNat) (fun o => ∃ w : List Int, o = some (w32 w) ∧ w.length = 64) ?_ _ _ ⟨0, _, List.replicate 64 0, by rfl, by omega, by simp⟩ (by simp [FUEL])
  rintro _ rec ⟨k, d3, w, rfl, hk, hw⟩ hrec
  simp only [F132.st3]
  by_cases h1 : k < 64
  · rw [show cond (ltI (k : Int) 64) _ _ = _ from ct (by simp; omega) rfl]
    have hadd : ad .i64 (k : Int) 1 = ((k + 1 : Nat) : Int) := by rw [ad64 (by omega) (by omega)]; rfl
    have fin : ∀ x : Int, ∃ w' : List Int, rec ⟨s, ad .i64 (k : Int) 1, d3, D.agg ((w32 w).parts.set (Int.toNat (k : Int)) (D.int .u32 x))⟩ = some (w32 w') ∧ w'.length = 64 := by
      intro x
      rw [hadd, w32_set]
      exact hrec _ ⟨k + 1, d3, _, rfl, by omega, by simpa using hw⟩ (by simp; omega)
    by_cases h2 : k < 16
    · have hm : ml .i64 4 (k : Int) = ((4 * k : Nat) : Int) := by rw [ml64 (by omega) (by omega)]; omega
      have ha : ∀ j : Nat, j ≤ 3 → ad .i64 ((4 * k : Nat) : Int) (j : Int) = ((4 * k + j : Nat) : Int) := fun j hj => by rw [ad64 (by omega) (by omega)]; omega
      rw [show cond (ltI (k : Int) 16) _ _ = _ from ct (by simp; omega) rfl]
      rw [hm, show (1 : Int) = ((1 : Nat) : Int) from rfl, show (2 : Int) = ((2 : Nat) : Int) from rfl, show (3 : Int) = ((3 : Nat) : Int) from rfl, ha 1 (by omega), ha 2 (by omega), ha 3 (by omega)]
      rw [show cond (inb ((4 * k : Nat) : Int) s.size) _ _ = _ from ct (by simp; omega) rfl, show cond (inb ((4 * k + 1 : Nat) : Int) s.size) _ _ = _ from ct (by simp; omega) rfl, show cond (inb ((4 * k + 2 : Nat) : Int) s.size) _ _ = _ from ct (by simp; omega) rfl, show cond (inb ((4 * k + 3 : Nat) : Int) s.size) _ _ = _ from ct (by simp; omega) rfl, show cond (inb (k : Int) 64) _ _ = _ from ct (by simp; omega) rfl]
      exact fin _
    · have hs15 : sb .i64 (k : Int) 15 = ((k - 15 : Nat) : Int) := by rw [sb64 (by omega) (by omega)]; omega
      have hs2 : sb .i64 (k : Int) 2 = ((k - 2 : Nat) : Int) := by rw [sb64 (by omega) (by omega)]; omega
      have hs16 : sb .i64 (k : Int) 16 = ((k - 16 : Nat) : Int) := by rw [sb64 (by omega) (by omega)]; omega
      have hs7 : sb .i64 (k : Int) 7 = ((k - 7 : Nat) : Int) := by rw [sb64 (by omega) (by omega)]; omega
      obtain ⟨r5, e5⟩ := right_spec ((w32 w).at (sb .i64 (k : Int) 15).toNat).i 7
      obtain ⟨r6, e6⟩ := right_spec ((w32 w).at (sb .i64 (k : Int) 15).toNat).i 18
      obtain ⟨r7, e7⟩ := right_spec ((w32 w).at (sb .i64 (k : Int) 2).toNat).i 17
      obtain ⟨r8, e8⟩ := right_spec ((w32 w).at (sb .i64 (k : Int) 2).toNat).i 19
      rw [show cond (ltI (k : Int) 16) _ _ = _ from cf (by simp; omega) rfl]
      rw [show cond (inb (sb .i64 (k : Int) 15) 64) _ _ = _ from ct (by rw [hs15]; simp; omega) rfl, show cond (inb (sb .i64 (k : Int) 2) 64) _ _ = _ from ct (by rw [hs2]; simp; omega) rfl, show cond (inb (sb .i64 (k : Int) 16) 64) _ _ = _ from ct (by rw [hs16]; simp; omega) rfl]
      rw [e5, bd_some, e6, bd_some, show cond (inb (sb .i64 (k : Int) 7) 64) _ _ = _ from ct (by rw [hs7]; simp; omega) rfl, e7, bd_some, e8, bd_some, show cond (inb (k : Int) 64) _ _ = _ from ct (by simp; omega) rfl]
      exact fin _
  · rw [show cond (ltI (k : Int) 64) _ _ = _ from cf (by simp; omega) rfl]
    exact ⟨w, rfl, hw⟩
theorem mix_spec (h k : List Int) (s : ByteArray) (hh : h.length = 8) (hs : s.size = 64) : ∃ h' : List Int, F89.s FUEL (w32 h) (w32 k) s = some (w32 h') ∧ h'.length = 8 := by
  unfold F89.s
  obtain ⟨w, hw, hwl⟩ := words_spec s hs
  rw [show cond (Nat.beq (w32 h).parts.length 8) _ _ = _ from ct (by simp [w32, hh]) rfl, hw]
  rw [bd_some]
  refine goS_rule (fun t : F89.S3 => ∃ (j : Nat) (i6 i7 i8 i9 i10 i11 i12 i13 : Int) (b14 : Bool) (l : List D), t = ⟨w32 w, (j : Int), w32 h, w32 k, i6, i7, i8, i9, i10, i11, i12, i13, b14, l⟩ ∧ j ≤ 64 ∧ l.length = 8) (fun t => 64 - t.i3.toNat) (fun o => ∃ h' : List Int, o = some (w32 h') ∧ h'.length = 8) ?_ _ _ ⟨0, 0, 0, 0, 0, 0, 0, 0, 0, true, _, rfl, by omega, by simp [w32, hh]⟩ (by simp [FUEL])
  rintro _ rec ⟨j, i6, i7, i8, i9, i10, i11, i12, i13, b14, l, rfl, hj, hl⟩ hrec
  simp only [F89.st3]
  by_cases h1 : j < 64
  · rw [show cond (ltI (j : Int) 64) _ _ = _ from ct (by simp; omega) rfl, show ∀ a : Option D, cond (inb (j : Int) 64) a none = a from fun a => ct (by simp; omega) rfl]
    obtain ⟨r1, e1⟩ := right_spec (ix l 4).i 6
    obtain ⟨r2, e2⟩ := right_spec (ix l 4).i 11
    obtain ⟨r3, e3⟩ := right_spec (ix l 4).i 25
    obtain ⟨r4, e4⟩ := right_spec (ix l 0).i 2
    obtain ⟨r5, e5⟩ := right_spec (ix l 0).i 13
    obtain ⟨r6, e6⟩ := right_spec (ix l 0).i 22
    have hc : (true && true && true && (Nat.beq l.length 8)) = true := by simp [hl]
    have hc2 : ∀ a : Option D, cond (inb (j : Int) 64) a none = a := fun a => ct (by simp; omega) rfl
    rw [e1, bd_some, e2, bd_some, e3, bd_some, hc2, e4, bd_some, e5, bd_some, e6, bd_some, hc, cond_true, cond_true]
    have hadd : ad .i64 (j : Int) 1 = ((j + 1 : Nat) : Int) := by rw [ad64 (by omega) (by omega)]; rfl
    rw [hadd]
    refine hrec _ ⟨j + 1, i6, i7, i8, i9, i10, i11, i12, i13, b14, _, rfl, by omega, ?_⟩ ?_
    · simp [ap, hl]
    · simp; omega
  · rw [show cond (ltI (j : Int) 64) _ _ = _ from cf (by simp; omega) rfl]
    refine goS_rule (fun t : F89.S13 => ∃ (m : Nat) (d24 : D) (i25 i26 i27 i28 i29 i30 i31 i32 : Int) (b33 : Bool) (l34 : List D) (h : List Int), t = ⟨(m : Int), w32 h, d24, i25, i26, i27, i28, i29, i30, i31, i32, b33, l34⟩ ∧ m ≤ 8 ∧ h.length = 8) (fun t => 8 - t.i22.toNat) (fun o => ∃ h' : List Int, o = some (w32 h') ∧ h'.length = 8) ?_ _ _ ⟨0, _, i6, i7, i8, i9, i10, i11, i12, i13, b14, l, h, rfl, by omega, hh⟩ (by simp [FUEL])
    rintro _ rec2 ⟨m, d24, i25, i26, i27, i28, i29, i30, i31, i32, b33, l34, g, rfl, hm, hg⟩ hrec2
    simp only [F89.st13]
    by_cases h2 : m < 8
    · have hc : ∀ a : Option D, cond (inb (m : Int) 8) a none = a := fun a => ct (by simp; omega) rfl
      rw [show cond (ltI (m : Int) 8) _ _ = _ from ct (by simp; omega) rfl, hc, hc, hc, w32_set]
      have hadd : ad .i64 (m : Int) 1 = ((m + 1 : Nat) : Int) := by rw [ad64 (by omega) (by omega)]; rfl
      rw [hadd]
      exact hrec2 _ ⟨m + 1, d24, i25, i26, i27, i28, i29, i30, i31, i32, b33, l34, _, rfl, by omega, by simpa using hg⟩ (by simp; omega)
    · rw [show cond (ltI (m : Int) 8) _ _ = _ from cf (by simp; omega) rfl]
      exact ⟨g, rfl, hg⟩
theorem tmod_nat (a b : Nat) : remI (nI a) (b : Int) = ((a % b : Nat) : Int) := by
  simp [remI, nI]; rfl
theorem ofBytes_size (l : List D) : (ofBytes l).size = l.length := by
  simp [ofBytes, ByteArray.size]
theorem bytesOf_len (s : ByteArray) : (bytesOf s).length = s.size := by simp [bytesOf]
theorem pad_spec (b : ByteArray) (hb : b.size ≤ 1000000) : ∃ t, F88.s FUEL b = some (dS t) ∧ t.size % 64 = 0 ∧ t.size ≤ b.size + 72 := by
  unfold F88.s
  rw [show cond (mx b.size) _ _ = _ from ct (by simp; omega) rfl, show cond (mx (b.size + 1)) _ _ = _ from ct (by simp; omega) rfl]
  refine goS_rule (fun t : F88.S2 => ∃ (l : List D) (b4 : Bool), t = ⟨b, 0, l.length, b4, l⟩ ∧ l.length ≤ b.size + 64 ∧ (l.length % 64 = 56 ∨ l.length + (120 - l.length % 64) % 64 ≤ b.size + 64)) (fun t => (120 - t.n3 % 64) % 64) (fun o => ∃ t, o = some (dS t) ∧ t.size % 64 = 0 ∧ t.size ≤ b.size + 72) ?_ _ _ ⟨ap (((bytesOf b).drop 0).take b.size) [D.int .u8 128], true, ?_, ?_, ?_⟩ (by simp [FUEL]; omega)
  · rintro _ rec ⟨l, b4, rfl, hl, hl2⟩ hrec
    simp only [F88.st2]
    have hrem := tmod_nat l.length 64
    rw [show ((64 : Nat) : Int) = 64 from rfl] at hrem
    rw [hrem]
    by_cases h1 : l.length % 64 = 56
    · rw [show cond (neI ((l.length % 64 : Nat) : Int) 56) _ _ = _ from cf (by simp; omega) rfl]
      refine goS_rule (fun t : F88.S6 => ∃ (m : List D) (i8 : Int) (k : Nat) (b10 : Bool), t = ⟨0, m.length, i8, (k : Int) - 1, b10, m⟩ ∧ k ≤ 8 ∧ m.length = l.length + (8 - k)) (fun t => (t.i9 + 1).toNat) (fun o => ∃ t, o = some (dS t) ∧ t.size % 64 = 0 ∧ t.size ≤ b.size + 72) ?_ _ _ ⟨l, _, 8, b4, rfl, by omega, by omega⟩ (by simp [FUEL])
      rintro _ rec2 ⟨m, i8, k, b10, rfl, hk, hm⟩ hrec2
      simp only [F88.st6]
      by_cases h2 : 1 ≤ k
      · have hml : ml .i64 8 ((k : Int) - 1) = 8 * ((k : Int) - 1) := by rw [ml64 (by omega) (by omega)]
        rw [show cond (geI ((k : Int) - 1) 0) _ _ = _ from ct (by simp; omega) rfl, hml, if_neg (by omega)]
        rw [bd_some]
        rw [show cond (mx (m.length + 1)) _ _ = _ from ct (by simp; omega) rfl]
        have step : ∀ (x : D) (bb : Bool), ∃ t, rec2 ⟨0, m.length + 1, i8, sb .i64 ((k : Int) - 1) 1, bb, ap ((m.drop 0).take m.length) [x]⟩ = some (dS t) ∧ t.size % 64 = 0 ∧ t.size ≤ b.size + 72 := by
          intro x bb
          have e1 : (ap ((m.drop 0).take m.length) [x]).length = m.length + 1 := by simp [ap]
          have e2 : sb .i64 ((k : Int) - 1) 1 = ((k - 1 : Nat) : Int) - 1 := by rw [sb64 (by omega) (by omega)]; omega
          refine hrec2 _ ⟨ap ((m.drop 0).take m.length) [x], i8, k - 1, bb, by rw [e1, e2], by omega, by omega⟩ ?_
          rw [e2]; dsimp only; omega
        exact step _ _
      · rw [show cond (geI ((k : Int) - 1) 0) _ _ = _ from cf (by simp; omega) rfl]
        refine ⟨_, rfl, ?_, ?_⟩
        · rw [ofBytes_size]; simp; omega
        · rw [ofBytes_size]; simp; omega
    · rw [show cond (neI ((l.length % 64 : Nat) : Int) 56) _ _ = _ from ct (by simp; omega) rfl, show cond (mx (l.length + 1)) _ _ = _ from ct (by simp; omega) rfl]
      have step : ∀ (x : D) (bb : Bool), ∃ t, rec ⟨b, 0, l.length + 1, bb, ap ((l.drop 0).take l.length) [x]⟩ = some (dS t) ∧ t.size % 64 = 0 ∧ t.size ≤ b.size + 72 := by
        intro x bb
        have e1 : (ap ((l.drop 0).take l.length) [x]).length = l.length + 1 := by simp [ap]
        refine hrec _ ⟨ap ((l.drop 0).take l.length) [x], bb, by rw [e1], by omega, by omega⟩ ?_
        dsimp only; omega
      exact step _ _
  · rw [F88.S2.mk.injEq]
    refine ⟨rfl, rfl, ?_, rfl, rfl⟩
    simp [ap, bytesOf_len]
  · simp [ap, bytesOf_len]
  · simp [ap, bytesOf_len]; omega
def H0 : List Int := [1779033703, 3144134277, 1013904242, 2773480762, 1359893119, 2600822924, 528734635, 1541459225]
def K0 : List Int := [1116352408, 1899447441, 3049323471, 3921009573, 961987163, 1508970993, 2453635748, 2870763221,
  3624381080, 310598401, 607225278, 1426881987, 1925078388, 2162078206, 2614888103, 3248222580,
  3835390401, 4022224774, 264347078, 604807628, 770255983, 1249150122, 1555081692, 1996064986,
  2554220882, 2821834349, 2952996808, 3210313671, 3336571891, 3584528711, 113926993, 338241895,
  666307205, 773529912, 1294757372, 1396182291, 1695183700, 1986661051, 2177026350, 2456956037,
  2730485921, 2820302411, 3259730800, 3345764771, 3516065817, 3600352804, 4094571909, 275423344,
  430227734, 506948616, 659060556, 883997877, 958139571, 1322822218, 1537002063, 1747873779,
  1955562222, 2024104815, 2227730452, 2361852424, 2428436474, 2756734187, 3204031479, 3329325298]
end Go.AM.SZ
namespace Go.AM.SZ
open Go Go.AM
set_option maxRecDepth 1000000 in
theorem const_spec : F87.s FUEL = some (.tup [w32 H0, w32 K0]) := by kernel_rfl
end Go.AM.SZ
namespace Go.AM.SZ
open Go Go.AM
theorem quo4 (k : Nat) (hk : k < 32) : quoI .i64 (k : Int) 4 = ((k / 4 : Nat) : Int) := by
  have h1 : (k : Int).tdiv 4 = ((k / 4 : Nat) : Int) := rfl
  unfold quoI
  rw [h1]
  have := ad64 (a := ((k / 4 : Nat) : Int)) (b := 0) (by omega) (by omega)
  simpa [ad] using this
theorem of_spec_ex (b : ByteArray) (hb : b.size ≤ 1000000) : ∃ l : List Int, F42.s FUEL b = some (sumD l) ∧ l.length = 32 := by
  unfold F42.s
  obtain ⟨t, ht, h1, h2⟩ := pad_spec b hb
  rw [const_spec, bd_some, ht, bd_some]
  refine goS_rule (fun s : F42.S3 => ∃ (t : ByteArray) (d : D) (h : List Int), s = ⟨dS t, d, w32 h, w32 K0⟩ ∧ t.size % 64 = 0 ∧ t.size ≤ b.size + 72 ∧ h.length = 8) (fun s => s.d3.s.size) (fun o => ∃ l : List Int, o = some (sumD l) ∧ l.length = 32) ?_ _ _ ⟨t, _, H0, rfl, h1, h2, rfl⟩ (by simp [FUEL]; omega)
  rintro _ rec ⟨t, d, h, rfl, h1, h2, h3⟩ hrec
  simp only [F42.st3]
  have hds : (dS t).s = t := rfl
  rw [hds]
  by_cases h0 : 0 < t.size
  · have h64 : 64 ≤ t.size := by omega
    rw [show cond (gtI (nI t.size) 0) _ _ = _ from ct (by simp; omega) rfl, show (true && true && (leI 64 (nI t.size)) && (leI (nI t.size) (nI t.size))) = true from by simp; omega,
      show (true && (leI 64 (nI t.size)) && (leI (nI t.size) (nI t.size)) && (leI (nI t.size) (nI t.size))) = true from by simp; omega, cond_true]
    obtain ⟨h', e1, e2⟩ := mix_spec h K0 (t.extract 0 64) h3 (by simp; omega)
    rw [e1, bd_some, cond_true]
    refine hrec _ ⟨t.extract 64 t.size, d, h', rfl, ?_, ?_, e2⟩ ?_
    · simp; omega
    · simp; omega
    · simp; omega
  · rw [show cond (gtI (nI t.size) 0) _ _ = _ from cf (by simp only [gtI_f, nI_eq]; omega) rfl]
    refine goS_rule (fun s : F42.S8 => ∃ (k : Nat) (d9 d11 : D) (l : List Int), s = ⟨(k : Int), d9, w32 h, d11, sumD l⟩ ∧ k ≤ 32 ∧ l.length = 32) (fun s => 32 - s.i8.toNat) (fun o => ∃ l : List Int, o = some (sumD l) ∧ l.length = 32) ?_ _ _ ⟨0, _, _, zeros, rfl, by omega, rfl⟩ (by simp [FUEL])
    rintro _ rec2 ⟨k, d9, d11, l, rfl, hk, hl⟩ hrec2
    simp only [F42.st8]
    by_cases hk2 : k < 32
    · have hadd : ad .i64 (k : Int) 1 = ((k + 1 : Nat) : Int) := by rw [ad64 (by omega) (by omega)]; rfl
      have hrem := tmod_nat k 4
      rw [show ((4 : Nat) : Int) = 4 from rfl, nI_eq] at hrem
      have hml : ml .i64 8 ((k % 4 : Nat) : Int) = ((8 * (k % 4) : Nat) : Int) := by rw [ml64 (by omega) (by omega)]; omega
      have hsb : sb .i64 24 ((8 * (k % 4) : Nat) : Int) = ((24 - 8 * (k % 4) : Nat) : Int) := by rw [sb64 (by omega) (by omega)]; omega
      rw [show cond (ltI (k : Int) 32) _ _ = _ from ct (by simp; omega) rfl, quo4 k hk2, hrem, hml, hsb, show cond (inb ((k / 4 : Nat) : Int) 8) _ _ = _ from ct (by simp; omega) rfl, if_neg (by omega)]
      rw [bd_some]
      rw [show cond (inb (k : Int) 32) _ _ = _ from ct (by simp; omega) rfl, hadd]
      have step : ∀ x : Int, ∃ l' : List Int, rec2 ⟨((k + 1 : Nat) : Int), d9, w32 h, d11, D.agg ((sumD l).parts.set (Int.toNat (k : Int)) (D.int .u8 x))⟩ = some (sumD l') ∧ l'.length = 32 := by
        intro x
        have e : D.agg ((sumD l).parts.set (Int.toNat (k : Int)) (D.int .u8 x)) = sumD (l.set k x) := by
          unfold sumD
          rw [List.map_set]
          rfl
        rw [e]
        exact hrec2 _ ⟨k + 1, d9, d11, l.set k x, rfl, by omega, by simpa using hl⟩ (by simp; omega)
      exact step _
    · rw [show cond (ltI (k : Int) 32) _ _ = _ from cf (by simp; omega) rfl]
      exact ⟨l, rfl, hl⟩
def shaL (b : ByteArray) : List Int := match F42.s FUEL b with
  | some (.agg ds) => if ds.length = 32 then ds.map D.i else zeros
  | _ => zeros
theorem shaL_len (b : ByteArray) : (shaL b).length = 32 := by
  unfold shaL
  split
  · split
    · simpa
    · rfl
  · rfl
theorem sha_spec (b : ByteArray) (hb : b.size ≤ 1000000) : F42.s FUEL b = some (sumD (shaL b)) := by
  obtain ⟨l, h1, h2⟩ := of_spec_ex b hb
  have : shaL b = l := by
    unfold shaL
    rw [h1]
    simp only [sumD]
    rw [if_pos (by simpa using h2), List.map_map]
    have : D.i ∘ D.int IntKind.u8 = id := rfl
    rw [this, List.map_id]
  rw [this, h1]
end Go.AM.SZ
namespace Go.AM.SZ
open Go Go.AM
theorem wrong_spec (e : Int) : F33.s FUEL e = some (wrongA e).enc := rfl
theorem find_specM (s : St) (n : ByteArray) (hl : s.files.length ≤ 1048576) : F25.s FUEL s.enc n = some (di (findI (fun f : Fl => decide (f.name = n)) s.files)) := by
  unfold F25.s
  have h0 : s.enc.at 0 = dl s.nn (s.files.map Fl.enc) := rfl
  rw [h0]
  refine goS_rule (fun t : F25.S45_2 => ∃ k : Nat, t = ⟨dl s.nn (s.files.map Fl.enc), nI s.files.length, (k : Int), s.enc, n⟩ ∧ k ≤ s.files.length ∧ ∀ i (h : i < s.files.length), i < k → decide (s.files[i].name = n) = false) (fun t => s.files.length - t.i3.toNat) (fun o => o = some (di (findI (fun f : Fl => decide (f.name = n)) s.files))) ?_ _ _ ⟨0, by simp, by omega, by omega⟩ (by simp [FUEL]; omega)
  rintro _ rec ⟨k, rfl, hk, hs⟩ hrec
  simp only [F25.st45_2]
  by_cases h1 : k < s.files.length
  · refine ct (by simp; omega) (ct (by simp; omega) ?_)
    simp only [elems_slice, Int.toNat_natCast, ix_map h1]
    by_cases h2 : s.files[k].name = n
    · refine ct (by show eqS s.files[k].name n = true; simpa using h2) ?_
      rw [findI, findIdx_some_of h1 hs (by simpa using h2)]
    · refine cf (by show eqS s.files[k].name n = false; simpa using h2) (hrec _ ⟨k + 1, ?_, by omega, ?_⟩ ?_)
      · rw [ad64 (by omega) (by omega)]; rfl
      · intro i hi hik
        by_cases hik' : i = k
        · subst hik'; simpa using h2
        · exact hs i hi (by omega)
      · rw [ad64 (by omega) (by omega)]; simp; omega
  · refine cf (by simp; omega) ?_
    rw [findI, findIdx_none_of (fun i hi => hs i hi (by omega))]
theorem numbered_spec (n : Int) : F101.s FUEL n = some (db (decide (1 ≤ n) && decide (n ≤ 1099511627776))) := by
  unfold F101.s
  by_cases h : 1 ≤ n
  · exact ct (by simpa using h) (by simp [h, leI])
  · exact cf (by simp; omega) (by simp [h])
theorem new_spec (id : Int) (s : ByteArray) (hs : s.size ≤ 1048576) : F106.s FUEL id s = some (.tup [(newF id s).1.enc, di (newF id s).2]) := by
  unfold F106.s newF
  refine bdS (name_spec s hs) ?_
  cases hv : nameB s with
  | false => exact ct rfl rfl
  | true =>
    refine cf rfl (bdS (numbered_spec id) ?_)
    by_cases h : 1 ≤ id ∧ id ≤ 1099511627776
    · rw [if_neg (by simp), if_pos h]
      exact cf (by simp [h.1, h.2]) rfl
    · rw [if_neg (by simp), if_neg h]
      exact ct (by simp; omega) rfl
theorem clone_files (nn : Bool) (l : List D) (h : nn = false → l = []) (hl : l.length ≤ 1073741824) : F107.s FUEL (dl nn l) = some (dl nn l) := by
  unfold F107.s
  cases nn with
  | false => rw [h rfl]; rfl
  | true => exact cf rfl (ct (by simpa using hl) (ct (by simp) rfl))
theorem append_spec (f : Fl) (s : ByteArray) (hf : f.data.size ≤ 1000000) (hs : s.size ≤ 1000000) : F148.s FUEL f.enc s = some (.tup [(appendF f s).1.enc, di (appendF f s).2]) := by
  unfold F148.s appendF
  have h3 : (f.enc.at 3).b = f.sealed := rfl
  have h2 : (f.enc.at 2).s = f.data := rfl
  rw [h3, h2]
  by_cases hse : f.sealed = true
  · rw [if_pos hse]; exact ct hse rfl
  · refine cf (by simpa using hse) ?_
    rw [if_neg hse]
    by_cases h0 : s = bs []
    · rw [if_pos h0]; exact ct (by simpa using h0) (by subst h0; rfl)
    rw [if_neg h0]
    refine cf (by simpa using h0) ?_
    have ha : ad .i64 (nI f.data.size) (nI s.size) = ((f.data.size + s.size : Nat) : Int) := by rw [nI_eq, nI_eq, ad64 (by omega) (by omega)]; omega
    rw [ha]
    by_cases h1 : 600 < f.data.size + s.size
    · rw [if_pos h1]; exact ct (by simp; omega) rfl
    · rw [if_neg h1]
      refine cf (by simp; omega) (bdS (x := dS (f.data ++ s)) ?_ rfl)
      unfold cat
      rw [if_pos (by have : (1000000000000 : Nat) ≤ maxInt := by decide
                     omega)]
theorem read_spec (f : Fl) (a b : Int) : F114.s FUEL f.enc a b = some (.tup [dS (readF f a b).1, di (readF f a b).2]) := by
  unfold F114.s readF
  have h2 : (f.enc.at 2).s = f.data := rfl
  rw [h2]
  by_cases h0 : a < 0
  · rw [if_pos h0]; exact ct (by simpa using h0) rfl
  rw [if_neg h0]
  refine cf (by simp; omega) ?_
  by_cases h1 : b < a
  · rw [if_pos h1]; exact ct (by simpa using h1) rfl
  rw [if_neg h1]
  refine cf (by simp; omega) ?_
  by_cases h3 : (f.data.size : Int) < b
  · rw [if_pos h3]; exact ct (by simpa using h3) rfl
  rw [if_neg h3]
  exact cf (by simp; omega) (ct (by simp; omega) rfl)
theorem meta_spec (f : Fl) : F41.s FUEL f.enc = some (metaF f).enc := rfl
theorem floor_spec (a b : Int) : F110.s FUEL a b = some (di (floorN a b)) := by
  unfold F110.s floorN maxi mini
  congr 2
  repeat' split
  all_goals omega
theorem tell_spec (f : Fl) (o : Mo) (hf : f.data.size ≤ 1000000) : F139.s FUEL f.enc o.enc = some (tellE shaL f o).enc := by
  unfold F139.s tellE
  have h0 : (o.enc.at 0).i = o.kind := rfl
  have hd : (f.enc.at 2).s = f.data := rfl
  rw [h0, hd]
  by_cases h1 : o.kind = 1
  · refine ct (by simpa using h1) ?_
    simp only [h1]
    have : o.enc.at 0 = di 1 := by rw [← h1]; rfl
    rw [this]
    rfl
  refine cf (by simpa using h1) ?_
  by_cases h2 : o.kind = 2
  · refine ct (by simpa using h2) (bdS (sha_spec f.data hf) ?_)
    have e1 : (if o.kind = 4 ∨ o.kind = 5 then o.text else bs []) = bs [] := if_neg (by omega)
    have e2 : (if o.kind = 2 ∨ o.kind = 3 then o.time else 0) = o.time := if_pos (by omega)
    have e3 : (if o.kind = 1 then (o.text.size : Int) else if o.kind = 2 then (f.data.size : Int) else 0) = (f.data.size : Int) := by rw [if_neg h1, if_pos h2]
    have e4 : (if o.kind = 2 then shaL f.data else zeros) = shaL f.data := if_pos h2
    rw [e1, e2, e3, e4]
    generalize shaL f.data = L
    rfl
  refine cf (by simpa using h2) ?_
  by_cases h3 : o.kind = 3
  · refine ct (by simpa using h3) ?_
    simp only [h3]
    have : o.enc.at 0 = di 3 := by rw [← h3]; rfl
    rw [this]
    rfl
  refine cf (by simpa using h3) ?_
  by_cases h4 : o.kind = 4
  · refine ct (by simpa using h4) (ct (by simpa using h4) ?_)
    simp only [h4]
    have : o.enc.at 0 = di 4 := by rw [← h4]; rfl
    rw [this]
    rfl
  refine cf (by simpa using h4) ?_
  by_cases h5 : o.kind = 5
  · refine ct (by simpa using h5) ?_
    simp only [h5]
    have : o.enc.at 0 = di 5 := by rw [← h5]; rfl
    rw [this]
    rfl
  · refine cf (by simpa using h5) ?_
    have e1 : (if o.kind = 4 ∨ o.kind = 5 then o.text else bs []) = bs [] := if_neg (by omega)
    have e2 : (if o.kind = 2 ∨ o.kind = 3 then o.time else 0) = 0 := if_neg (by omega)
    have e3 : (if o.kind = 1 then (o.text.size : Int) else if o.kind = 2 then (f.data.size : Int) else 0) = 0 := by rw [if_neg h1, if_neg h2]
    have e4 : (if o.kind = 2 then shaL f.data else zeros) = zeros := if_neg h2
    rw [e1, e2, e3, e4]
    rfl
theorem fileDo_spec (f : Fl) (o : Mo) (floor last : Int) (hf : FlOk f last) (ho : MoOk o) : F108.s FUEL f.enc o.enc floor = some (.tup [(fileDo shaL f o floor).1.enc, (fileDo shaL f o floor).2.1.enc, di (fileDo shaL f o floor).2.2]) := by
  have hd := hf.data
  have ht := ho.text
  have htell := tell_spec f o (by omega)
  unfold F108.s fileDo
  have h0 : (o.enc.at 0).i = o.kind := rfl
  rw [h0]
  have fin : ∀ (r : Fl × Int), (bd (some (D.tup [r.1.enc, di r.2])) fun r1 => (cond (neI (r1.at 1).i 0) (some (D.tup [f.enc, (da [(di 0), (di 0), (dS (bs [])), (di 0), (di 0), (da (rp 32 (D.int .u8 0)))]), (r1.at 1)])) (bd (F139.s FUEL f.enc o.enc) fun r2 => (some (D.tup [(r1.at 0), r2, (di 0)]))))) =
      some (.tup [(if r.2 = 0 then (r.1, tellE shaL f o, (0 : Int)) else (f, zeroEv, r.2)).1.enc, (if r.2 = 0 then (r.1, tellE shaL f o, (0 : Int)) else (f, zeroEv, r.2)).2.1.enc, di (if r.2 = 0 then (r.1, tellE shaL f o, (0 : Int)) else (f, zeroEv, r.2)).2.2]) := by
    intro r
    rw [bd_some]
    by_cases h : r.2 = 0
    · rw [if_pos h]
      exact cf (by show neI r.2 0 = false; simpa using h) (bdS htell rfl)
    · rw [if_neg h]
      exact ct (by show neI r.2 0 = true; simpa using h) rfl
  by_cases h1 : o.kind = 1
  · refine ct (by simpa using h1) (cf (by simp [h1]) (cf (by simp [h1]) ?_))
    have hR : deedF f o floor = appendF f o.text := by unfold deedF; simp [h1]
    rw [hR, show F148.s FUEL f.enc (o.enc.at 2).s = _ from append_spec f o.text (by omega) (by omega)]
    exact fin _
  refine cf (by simpa using h1) ?_
  by_cases h4 : o.kind = 4
  · refine ct (by simpa using h4) (cf (by simp [h4]) (cf (by simp [h4]) ?_))
    have hR : deedF f o floor = holdF f o.text := by unfold deedF; simp [h4]
    rw [hR, show F81.s FUEL f.enc (o.enc.at 2).s = _ from hold_spec f o.text (by omega) (by have := hf.hold; omega) (fun x hx => by have := hf.hsz x hx; omega) hf.nil]
    exact fin _
  refine cf (by simpa using h4) ?_
  by_cases h5 : o.kind = 5
  · refine ct (by simpa using h5) (cf (by simp [h5]) (cf (by simp [h5]) ?_))
    have hR : deedF f o floor = releaseF f o.text := by unfold deedF; simp [h5]
    rw [hR, show F83.s FUEL f.enc (o.enc.at 2).s = _ from release_spec f o.text (by have := hf.hold; omega) hf.nil]
    exact fin _
  refine cf (by simpa using h5) ?_
  by_cases h2 : o.kind = 2
  · refine ct (by simpa using h2) (cf (by simp [h2]) (cf (by simp [h2]) ?_))
    have hR : deedF f o floor = sealF f o.time := by unfold deedF; simp [h2]
    rw [hR, show F76.s FUEL f.enc (o.enc.at 3).i = _ from seal_spec f o.time]
    exact fin _
  refine cf (by simpa using h2) ?_
  by_cases h3 : o.kind = 3
  · refine ct (by simpa using h3) (cf (by simp [h3]) (cf (by simp [h3]) ?_))
    have hR : deedF f o floor = extendF f o.time := by unfold deedF; simp [h3]
    rw [hR, show F79.s FUEL f.enc (o.enc.at 3).i = _ from extend_spec f o.time]
    exact fin _
  refine cf (by simpa using h3) ?_
  by_cases h6 : o.kind = 6
  · refine ct (by simpa using h6) (cf (by simp [h6]) (ct (by simpa using h6) ?_))
    have hR : deedF f o floor = (zeroF, mayN f floor) := by unfold deedF; simp [h6]
    rw [hR]
    refine bdS (may_spec f floor) ?_
    by_cases h : mayN f floor = 0
    · rw [if_pos h]
      exact cf (by show neI (mayN f floor) 0 = false; simpa using h) (bdS htell rfl)
    · rw [if_neg h]
      exact ct (by show neI (mayN f floor) 0 = true; simpa using h) rfl
  refine cf (by simpa using h6) ?_
  by_cases h0 : o.kind = 0
  · have hR : deedF f o floor = (f, 4) := by unfold deedF; simp [h0]
    rw [hR]
    exact ct (by simpa using h0) rfl
  · have hR : deedF f o floor = (f, 1) := by unfold deedF; simp [h0, h1, h2, h3, h4, h5, h6]
    rw [hR]
    exact cf (by simpa using h0) rfl
end Go.AM.SZ
