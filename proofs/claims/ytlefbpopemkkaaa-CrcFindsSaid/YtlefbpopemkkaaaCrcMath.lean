/- Residues modulo the generator x^16+x^12+x^5+1, as plain Lean: linear maps, products, powers, strings. No program in sight. -/
namespace Go.Proofs.Ytlefbpopemkkaaa.Crc
abbrev W := BitVec 16
def T (a : W) : W := if a.msb then (a <<< 1) ^^^ 0x1021#16 else a <<< 1
theorem T_xor (a b : W) : T (a ^^^ b) = T a ^^^ T b := by
  unfold T
  rw [BitVec.msb_xor, BitVec.shiftLeft_xor_distrib]
  cases ha : a.msb <;> cases hb : b.msb <;> simp <;> 
    (apply BitVec.eq_of_getLsbD_eq; intro i _; simp only [BitVec.getLsbD_xor]; 
     cases (a <<< 1).getLsbD i <;> cases (b <<< 1).getLsbD i <;> cases (0x1021#16).getLsbD i <;> rfl)
theorem xz (a : W) : 0#16 ^^^ a = a := by simp
theorem zx (a : W) : a ^^^ 0#16 = a := by simp
theorem xx (a : W) : a ^^^ a = 0#16 := by simp
/-- a linear map is known by its values at the powers of two -/
def bas (i : Nat) : W := 1#16 <<< i
def parts (a : W) : Nat → W
  | 0 => 0
  | n + 1 => parts a n ^^^ (if a.getLsbD n then bas n else 0)
theorem parts_bit (a : W) (n : Nat) : ∀ i, i < 16 → (parts a n).getLsbD i = (a.getLsbD i && decide (i < n)) := by
  induction n with
  | zero => intro i hi; simp [parts]
  | succ n ih =>
    intro i hi
    simp only [parts, BitVec.getLsbD_xor, ih i hi]
    by_cases h : i = n
    · subst h
      cases hb : a.getLsbD i <;> simp [bas, hi]
    · have e : decide (i < n + 1) = decide (i < n) := by
        by_cases h2 : i < n
        · simp [h2]; omega
        · simp [h2]; omega
      rw [e]
      have hz : (bas n).getLsbD i = false := by
        simp only [bas, BitVec.getLsbD_shiftLeft, BitVec.getLsbD_one]
        by_cases h2 : i < n
        · simp [h2]
        · have : ¬ (i - n = 0) := by omega
          simp [this]
      cases hb : a.getLsbD n <;> simp [hz]
theorem parts_all (a : W) : parts a 16 = a := by
  apply BitVec.eq_of_getLsbD_eq; intro i hi
  rw [parts_bit a 16 i hi]; simp [hi]
def Lin (f : W → W) : Prop := ∀ a b, f (a ^^^ b) = f a ^^^ f b
theorem Lin.zero {f : W → W} (h : Lin f) : f 0 = 0 := by
  have := h 0 0
  simpa using this
theorem Lin.parts {f g : W → W} (hf : Lin f) (hg : Lin g) (h : ∀ i, i < 16 → f (bas i) = g (bas i)) (a : W) : ∀ n, n ≤ 16 → f (parts a n) = g (parts a n)
  | 0, _ => by simp only [Crc.parts]; rw [hf.zero, hg.zero]
  | n + 1, hn => by
    simp only [Crc.parts]; rw [hf, hg, Lin.parts hf hg h a n (by omega)]
    cases a.getLsbD n
    · rw [if_neg (by decide), hf.zero, hg.zero]
    · rw [if_pos rfl, h n (by omega)]
theorem Lin.ext {f g : W → W} (hf : Lin f) (hg : Lin g) (h : ∀ i, i < 16 → f (bas i) = g (bas i)) (a : W) : f a = g a := by
  have := Lin.parts hf hg h a 16 (by omega)
  rwa [parts_all] at this
/-- n times T -/
def Tn : Nat → W → W
  | 0, a => a
  | n + 1, a => T (Tn n a)
theorem Tn_lin (n : Nat) : Lin (Tn n) := by
  induction n with
  | zero => intro a b; rfl
  | succ n ih => intro a b; simp only [Tn]; rw [ih, T_xor]
theorem Tn_add (m n : Nat) (a : W) : Tn (m + n) a = Tn m (Tn n a) := by
  induction m with
  | zero => simp [Tn]
  | succ m ih => rw [Nat.succ_add]; simp only [Tn]; rw [ih]
theorem Tn_comm (m n : Nat) (a : W) : Tn m (Tn n a) = Tn n (Tn m a) := by rw [← Tn_add, ← Tn_add, Nat.add_comm]
/-- Horner's way: the highest k bits of b, the highest first -/
def hor (a b : W) : Nat → W
  | 0 => 0
  | k + 1 => if b.getLsbD (15 - k) then T (hor a b k) ^^^ a else T (hor a b k)
def mul (a b : W) : W := hor a b 16
theorem xor4 (a b c d : W) : (a ^^^ b) ^^^ (c ^^^ d) = (a ^^^ c) ^^^ (b ^^^ d) := by
  apply BitVec.eq_of_getLsbD_eq; intro i _; simp only [BitVec.getLsbD_xor]
  cases a.getLsbD i <;> cases b.getLsbD i <;> cases c.getLsbD i <;> cases d.getLsbD i <;> rfl
theorem T_zero : T 0 = 0 := by decide
theorem hor_left (a a' b : W) (k : Nat) : hor (a ^^^ a') b k = hor a b k ^^^ hor a' b k := by
  induction k with
  | zero => simp [hor]
  | succ k ih =>
    simp only [hor, ih, T_xor]
    split
    · rw [xor4]
    · rfl
theorem hor_right (a b b' : W) (k : Nat) : hor a (b ^^^ b') k = hor a b k ^^^ hor a b' k := by
  induction k with
  | zero => simp [hor]
  | succ k ih =>
    simp only [hor, ih, T_xor, BitVec.getLsbD_xor]
    cases b.getLsbD (15 - k) <;> cases b'.getLsbD (15 - k) <;> simp
    · rw [BitVec.xor_assoc]
    · rw [BitVec.xor_assoc, BitVec.xor_assoc, BitVec.xor_comm a]
    · rw [xor4, BitVec.xor_self, BitVec.xor_zero]
theorem hor_map (f : W → W) (hf : Lin f) (ht : ∀ a, f (T a) = T (f a)) (a b : W) (k : Nat) : f (hor a b k) = hor (f a) b k := by
  induction k with
  | zero => simp only [hor]; exact hf.zero
  | succ k ih =>
    simp only [hor]
    split
    · rw [hf, ht, ih]
    · rw [ht, ih]
theorem mul_left (a a' b : W) : mul (a ^^^ a') b = mul a b ^^^ mul a' b := hor_left a a' b 16
theorem mul_right (a b b' : W) : mul a (b ^^^ b') = mul a b ^^^ mul a b' := hor_right a b b' 16
theorem one_mul (b : W) : mul 1 b = b := by
  refine Lin.ext (f := mul 1) (g := fun b => b) (fun a b => mul_right 1 a b) (fun a b => rfl) ?_ b
  intro i hi
  have : ∀ i : Fin 16, mul 1 (bas i) = bas i := by decide +kernel
  exact this ⟨i, hi⟩
theorem mul_T (a b : W) : mul (T a) b = T (mul a b) := (hor_map T T_xor (fun _ => rfl) a b 16).symm
theorem mul_mul (a b c : W) : mul (mul a b) c = mul (mul a c) b :=
  (hor_map (fun x => mul x c) (fun x y => mul_left x y c) (fun x => mul_T x c) a b 16)
theorem mul_comm (a b : W) : mul a b = mul b a := by
  have := mul_mul 1 a b
  rw [one_mul, one_mul] at this; exact this
theorem mul_assoc (a b c : W) : mul (mul a b) c = mul a (mul b c) := by
  rw [mul_comm a (mul b c), mul_mul b c a, mul_comm b a]
theorem mul_one (a : W) : mul a 1 = a := by rw [mul_comm, one_mul]
theorem mul_Tn (n : Nat) (a b : W) : mul (Tn n a) b = Tn n (mul a b) := by
  induction n with
  | zero => rfl
  | succ n ih => simp only [Tn]; rw [mul_T, ih]
def pw (n : Nat) : W := Tn n 1
theorem pw_mul (m n : Nat) : mul (pw m) (pw n) = pw (m + n) := by
  unfold pw; rw [mul_Tn, one_mul, ← Tn_add]
theorem Tn_eq (n : Nat) (a : W) : Tn n a = mul a (pw n) := by
  rw [mul_comm]; unfold pw; rw [mul_Tn, one_mul]
/-- fast powers -/
def sq : Nat → W
  | 0 => 2
  | k + 1 => mul (sq k) (sq k)
theorem sq_pw (k : Nat) : sq k = pw (2 ^ k) := by
  induction k with
  | zero => decide
  | succ k ih => simp only [sq]; rw [ih, pw_mul]; congr 1; omega
def fpw (n : Nat) : Nat → W
  | 0 => 1
  | k + 1 => if n.testBit k then mul (fpw n k) (sq k) else fpw n k
theorem fpw_pw (n : Nat) (k : Nat) : fpw n k = pw (n % 2 ^ k) := by
  induction k with
  | zero => simp [fpw, Nat.mod_one]; rfl
  | succ k ih =>
    have hm : n % 2 ^ (k + 1) = n % 2 ^ k + 2 ^ k * (n / 2 ^ k % 2) := by
      rw [Nat.pow_succ, Nat.mod_mul]
    have hb : n.testBit k = decide (n / 2 ^ k % 2 = 1) := by
      rw [Nat.testBit_eq_decide_div_mod_eq]
    simp only [fpw, ih, sq_pw]
    rw [hm, hb]
    by_cases h : n / 2 ^ k % 2 = 1
    · simp [h, pw_mul]
    · have h0 : n / 2 ^ k % 2 = 0 := by omega
      simp [h0]
theorem pw_order : pw 32767 = 1 := by
  have := fpw_pw 32767 15
  rw [show 32767 % 2 ^ 15 = 32767 from rfl] at this
  rw [← this]; decide +kernel
theorem pw_4681 : pw 4681 ≠ 1 := by
  have := fpw_pw 4681 15
  rw [show 4681 % 2 ^ 15 = 4681 from rfl] at this
  rw [← this]; decide +kernel
theorem pw_1057 : pw 1057 ≠ 1 := by
  have := fpw_pw 1057 15
  rw [show 1057 % 2 ^ 15 = 1057 from rfl] at this
  rw [← this]; decide +kernel
theorem pw_217 : pw 217 ≠ 1 := by
  have := fpw_pw 217 15
  rw [show 217 % 2 ^ 15 = 217 from rfl] at this
  rw [← this]; decide +kernel

theorem pw_add_order (n : Nat) : pw (32767 + n) = pw n := by rw [← pw_mul, pw_order, one_mul]
theorem pw_mul_one (b k : Nat) (h : pw b = 1) : pw (b * k) = 1 := by
  induction k with
  | zero => rfl
  | succ k ih => rw [Nat.mul_succ, ← pw_mul, ih, h, one_mul]
theorem pw_mod (a b : Nat) (ha : pw a = 1) (hb : pw b = 1) : pw (a % b) = 1 := by
  have h := Nat.div_add_mod a b
  have h2 := pw_mul (b * (a / b)) (a % b)
  rw [h, pw_mul_one b _ hb, one_mul, ha] at h2; exact h2
theorem pw_gcd (a b : Nat) : pw a = 1 → pw b = 1 → pw (Nat.gcd a b) = 1 := by
  refine Nat.gcd.induction (P := fun a b => pw a = 1 → pw b = 1 → pw (Nat.gcd a b) = 1) a b ?_ ?_
  · intro n _ h; simpa using h
  · intro m n _ ih hm hn
    rw [Nat.gcd_rec]
    exact ih (pw_mod n m hn hm) hm
theorem order_small (g : Nat) (h : g ∣ 32767) (hg : g < 32767) : g ∣ 4681 ∨ g ∣ 1057 ∨ g ∣ 217 := by
  obtain ⟨k, hk⟩ := h
  have hk1 : ∀ k : Fin 182, ¬ (k.val ∣ 32767) ∨ k.val = 1 ∨ k.val = 7 ∨ k.val = 31 ∨ k.val = 151 := by decide +kernel
  by_cases c : k < 182
  · rcases hk1 ⟨k, c⟩ with h | h | h | h | h
    · exact absurd ⟨g, by rw [hk, Nat.mul_comm]⟩ h
    · simp at h; subst h; omega
    · simp at h; subst h; exact .inl ⟨1, by omega⟩
    · simp at h; subst h; exact .inr (.inl ⟨1, by omega⟩)
    · simp at h; subst h; exact .inr (.inr ⟨1, by omega⟩)
  · have hg2 : g < 182 := by
      refine Nat.lt_of_not_le fun hge => ?_
      have : 182 * 182 ≤ g * k := Nat.mul_le_mul hge (by omega)
      omega
    rcases hk1 ⟨g, hg2⟩ with h | h | h | h | h
    · exact absurd ⟨k, hk⟩ h
    all_goals (simp at h; subst h)
    · exact .inl ⟨4681, by omega⟩
    · exact .inr (.inl ⟨151, by omega⟩)
    · exact .inl ⟨151, by omega⟩
    · exact .inl ⟨31, by omega⟩
theorem pw_ne_one (d : Nat) (h0 : 0 < d) (h1 : d < 32767) : pw d ≠ 1 := by
  intro h
  have hg := pw_gcd d 32767 h pw_order
  have hd : Nat.gcd d 32767 ∣ 32767 := Nat.gcd_dvd_right _ _
  have hlt : Nat.gcd d 32767 < 32767 := Nat.lt_of_le_of_lt (Nat.le_of_dvd h0 (Nat.gcd_dvd_left _ _)) h1
  rcases order_small _ hd hlt with ⟨k, hk⟩ | ⟨k, hk⟩ | ⟨k, hk⟩
  · exact pw_4681 (by rw [hk]; exact pw_mul_one _ _ hg)
  · exact pw_1057 (by rw [hk]; exact pw_mul_one _ _ hg)
  · exact pw_217 (by rw [hk]; exact pw_mul_one _ _ hg)
theorem pw_inj_lt (i j : Nat) (h : i < j) (hj : j < 32767) : pw i ≠ pw j := by
  intro he
  have h1 := pw_mul i (32767 - i)
  have h2 := pw_mul j (32767 - i)
  rw [he, h2, show j + (32767 - i) = 32767 + (j - i) by omega, show i + (32767 - i) = 32767 by omega, pw_add_order, pw_order] at h1
  exact pw_ne_one (j - i) (by omega) (by omega) h1
theorem pw_inj (i j : Nat) (hi : i < 32767) (hj : j < 32767) (h : pw i = pw j) : i = j := by
  rcases Nat.lt_trichotomy i j with c | c | c
  · exact absurd h (pw_inj_lt i j c hj)
  · exact c
  · exact absurd h.symm (pw_inj_lt j i c hi)
theorem pw_mod_order (n : Nat) : pw (n % 32767) = pw n := by
  have h := pw_mul (32767 * (n / 32767)) (n % 32767)
  rw [Nat.div_add_mod, pw_mul_one _ _ pw_order, one_mul] at h; exact h
theorem pw_eight (n : Nat) : pw (8 * (n % 32767)) = pw (8 * n) := by
  rw [← pw_mod_order (8 * (n % 32767)), ← pw_mod_order (8 * n)]
  congr 1; omega
theorem T_inj0 (a : W) (h : T a = 0) : a = 0 := by
  have h2 : Tn 32767 a = a := by rw [Tn_eq, pw_order, mul_one]
  have h3 : Tn 32767 a = Tn 32766 (T a) := Tn_add 32766 1 a
  rw [h3, h, (Tn_lin 32766).zero] at h2; exact h2.symm
theorem Tn_inj0 (n : Nat) (a : W) (h : Tn n a = 0) : a = 0 := by
  induction n with
  | zero => exact h
  | succ n ih => exact ih (T_inj0 _ h)
theorem pw_ne_zero (n : Nat) : pw n ≠ 0 := fun h => by
  have := Tn_inj0 n 1 h; exact absurd this (by decide)
/-- the parity of the bits -/
def parN (a : W) : Nat → Bool
  | 0 => false
  | n + 1 => (a.getLsbD n ^^ parN a n)
def par (a : W) : Bool := parN a 16
theorem parN_xor (a b : W) (n : Nat) : parN (a ^^^ b) n = (parN a n ^^ parN b n) := by
  induction n with
  | zero => rfl
  | succ n ih => simp only [parN, ih, BitVec.getLsbD_xor]; cases a.getLsbD n <;> cases b.getLsbD n <;> cases parN a n <;> cases parN b n <;> rfl
theorem par_xor (a b : W) : par (a ^^^ b) = (par a ^^ par b) := parN_xor a b 16
def bw (b : Bool) : W := if b then 1 else 0
theorem bw_xor (a b : Bool) : bw (a ^^ b) = bw a ^^^ bw b := by cases a <;> cases b <;> decide
theorem par_T (a : W) : par (T a) = par a := by
  have h : bw (par (T a)) = bw (par a) := by
    refine Lin.ext (f := fun a => bw (par (T a))) (g := fun a => bw (par a)) ?_ ?_ ?_ a
    · intro a b; show bw (par (T (a ^^^ b))) = _; rw [T_xor, par_xor, bw_xor]
    · intro a b; show bw (par (a ^^^ b)) = _; rw [par_xor, bw_xor]
    · intro i hi
      have : ∀ i : Fin 16, bw (par (T (bas i))) = bw (par (bas i)) := by decide +kernel
      exact this ⟨i, hi⟩
  revert h; cases par (T a) <;> cases par a <;> decide
theorem par_pw (n : Nat) : par (pw n) = true := by
  unfold pw
  induction n with
  | zero => decide
  | succ n ih => simp only [Tn]; rw [par_T, ih]
/-- bytes -/
def by_ (c : UInt8) : W := c.toBitVec.setWidth 16
def upd (s : W) (l : List UInt8) : W := l.foldl (fun s c => Tn 8 (s ^^^ (by_ c <<< 8))) s
def V (l : List UInt8) : W := l.foldl (fun v c => Tn 8 v ^^^ by_ c) 0
theorem upd_app (s : W) (a b : List UInt8) : upd s (a ++ b) = upd (upd s a) b := by unfold upd; rw [List.foldl_append]
theorem upd_snoc (s : W) (a : List UInt8) (c : UInt8) : upd s (a ++ [c]) = Tn 8 (upd s a ^^^ (by_ c <<< 8)) := by rw [upd_app]; rfl
theorem upd_lin (l : List UInt8) : ∀ (s t : W), upd (s ^^^ t) l = Tn (8 * l.length) s ^^^ upd t l := by
  induction l with
  | nil => intro s t; rfl
  | cons c l ih =>
    intro s t
    have e : ∀ s, upd s (c :: l) = upd (Tn 8 (s ^^^ (by_ c <<< 8))) l := fun _ => rfl
    rw [e, e, BitVec.xor_assoc, Tn_lin 8 s, ih, ← Tn_add]
    rfl
theorem upd_zero (s : W) (l : List UInt8) : upd s l = Tn (8 * l.length) s ^^^ upd 0 l := by
  have := upd_lin l s 0
  rwa [show s ^^^ (0 : W) = s from BitVec.xor_zero] at this
/-- by half bytes -/
def tab (h : W) : W := Tn 4 (h <<< 12)
theorem shl_lin (n : Nat) (a b : W) : (a ^^^ b) <<< n = a <<< n ^^^ b <<< n := BitVec.shiftLeft_xor_distrib a b n
theorem shr_lin (n : Nat) (a b : W) : (a ^^^ b) >>> n = a >>> n ^^^ b >>> n := BitVec.ushiftRight_xor_distrib a b n
theorem nib (s h : W) : (s <<< 4) ^^^ tab ((s >>> 12) ^^^ h) = Tn 4 (s ^^^ (h <<< 12)) := by
  have h1 : ∀ s : W, (s <<< 4) ^^^ tab (s >>> 12) = Tn 4 s := by
    intro s
    refine Lin.ext (f := fun s => (s <<< 4) ^^^ tab (s >>> 12)) (g := Tn 4) ?_ (Tn_lin 4) ?_ s
    · intro a b
      show ((a ^^^ b) <<< 4) ^^^ Tn 4 (((a ^^^ b) >>> 12) <<< 12) = _
      rw [shl_lin 4 a b, shr_lin 12 a b, shl_lin 12 (a >>> 12), Tn_lin 4, xor4]; rfl
    · intro i hi
      have : ∀ i : Fin 16, (bas i <<< 4) ^^^ tab (bas i >>> 12) = Tn 4 (bas i) := by decide +kernel
      exact this ⟨i, hi⟩
  have h2 : tab ((s >>> 12) ^^^ h) = tab (s >>> 12) ^^^ tab h := by
    unfold tab; rw [shl_lin 12 (s >>> 12) h, Tn_lin 4]
  rw [h2, ← BitVec.xor_assoc, h1, Tn_lin 4]; rfl
theorem byte_split (c : UInt8) : Tn 4 ((by_ (c >>> 4)) <<< 12) ^^^ 0 = Tn 4 ((by_ (c >>> 4)) <<< 12) := by simp
theorem all_bytes (p : UInt8 → Bool) (h : ∀ i : Fin 256, p (UInt8.ofNat i) = true) (c : UInt8) : p c = true := by
  have := h ⟨c.toNat, c.toNat_lt⟩
  simpa using this
theorem byte_two (s : W) (c : UInt8) : Tn 4 (Tn 4 (s ^^^ (by_ (c >>> 4) <<< 12)) ^^^ (by_ (c &&& 15) <<< 12)) = Tn 8 (s ^^^ (by_ c <<< 8)) := by
  have h := all_bytes (fun c => Tn 4 (Tn 4 (by_ (c >>> 4) <<< 12) ^^^ (by_ (c &&& 15) <<< 12)) == Tn 8 (by_ c <<< 8)) (by decide +kernel) c
  rw [beq_iff_eq] at h
  rw [Tn_lin 8, ← h, Tn_lin 4 s, BitVec.xor_assoc, Tn_lin 4 (Tn 4 s)]; rfl
theorem byte_step (s : W) (c : UInt8) :
    ((s <<< 4) ^^^ tab ((s >>> 12) ^^^ by_ (c >>> 4))) <<< 4 ^^^ tab ((((s <<< 4) ^^^ tab ((s >>> 12) ^^^ by_ (c >>> 4))) >>> 12) ^^^ by_ (c &&& 15)) = Tn 8 (s ^^^ (by_ c <<< 8)) := by
  rw [nib, nib, byte_two]
/-- the polynomial of a string -/
theorem V_snoc (l : List UInt8) (c : UInt8) : V (l ++ [c]) = Tn 8 (V l) ^^^ by_ c := by unfold V; rw [List.foldl_append]; rfl
theorem by_16 (c : UInt8) : Tn 8 (by_ c <<< 8) = Tn 16 (by_ c) := by
  have h := all_bytes (fun c => Tn 8 (by_ c <<< 8) == Tn 16 (by_ c)) (by decide +kernel) c
  simpa using h
theorem by_8 (c : UInt8) : Tn 8 (by_ c) = by_ c <<< 8 := by
  have h := all_bytes (fun c => Tn 8 (by_ c) == by_ c <<< 8) (by decide +kernel) c
  simpa using h
theorem upd_V (l : List UInt8) : upd 0 l = Tn 16 (V l) := by
  suffices h : ∀ (l : List UInt8) (v : W), upd (Tn 16 v) l = Tn 16 (l.foldl (fun v c => Tn 8 v ^^^ by_ c) v) by
    have := h l 0
    rwa [(Tn_lin 16).zero] at this
  intro l
  induction l with
  | nil => intro v; rfl
  | cons c l ih =>
    intro v
    have e : ∀ s, upd s (c :: l) = upd (Tn 8 (s ^^^ (by_ c <<< 8))) l := fun _ => rfl
    rw [e, Tn_lin 8, by_16, Tn_comm, ← Tn_lin 16, ih]; rfl
theorem V_two (l : List UInt8) (a b : UInt8) : V (l ++ [a, b]) = upd 0 l ^^^ ((by_ a <<< 8) ^^^ by_ b) := by
  rw [show l ++ [a, b] = (l ++ [a]) ++ [b] by simp, V_snoc, V_snoc, Tn_lin 8, by_8, upd_V, ← Tn_add, BitVec.xor_assoc]
theorem V_mid (l r : List UInt8) (c d : UInt8) : V (l ++ c :: r) ^^^ V (l ++ d :: r) = Tn (8 * r.length) (by_ c ^^^ by_ d) := by
  have key : ∀ (r : List UInt8) (u v : W), r.foldl (fun v c => Tn 8 v ^^^ by_ c) u ^^^ r.foldl (fun v c => Tn 8 v ^^^ by_ c) v = Tn (8 * r.length) (u ^^^ v) := by
    intro r
    induction r with
    | nil => intro u v; rfl
    | cons c r ih =>
      intro u v
      simp only [List.foldl_cons, List.length_cons]
      rw [ih, xor4, BitVec.xor_self, BitVec.xor_zero, ← Tn_lin 8, ← Tn_add]
      rfl
  unfold V
  rw [List.foldl_append, List.foldl_append, List.foldl_cons, List.foldl_cons, key, xor4, BitVec.xor_self, BitVec.zero_xor]
end Go.Proofs.Ytlefbpopemkkaaa.Crc
