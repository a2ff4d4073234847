/- A whole number in digits of any base is read as it: the plain law of DecRadix. -/
import Derived.Test.YtiocgpfnbmlfaaaDoorPQx4
import Derived.Test.YtiocgpfnbmlfaaaDoorQParse
namespace Go.Proofs.YtiocgpfnbmlfaaaDoor.QD
open Go Go.RowKit Go.Proofs.YtiocgpfnbmlfaaaDoor Go.Proofs.YtiocgpfnbmlfaaaDoor.PQ Go.Proofs.YtiocgpfnbmlfaaaDoorW.PrintWords Go.Proofs.YtiocgpfnbmlfaaaDoorW.PrintLast

theorem S_nums (n : Nat) : strOfNums [(n : Int)] = S [UInt8.ofNat n] := by simp [strOfNums, S]
theorem u64_small (n : Nat) (h : n < 18446744073709551616) : IntKind.u64.wrap (n : Int) = n := by
  simp [IntKind.wrap, IntKind.bits, IntKind.signed]
  omega
theorem udec_ev (k : Nat) : ∀ (n : Nat) (x : List UInt8), n < 10 ^ (k + 1) → n < 18446744073709551616 → x.length + k < 9223372036854775807 →
    Ev (fun r => mezzotintref01_udec.l0 r n (S x)) (S (digs n ++ x)) := by
  induction k with
  | zero =>
    intro n x hn hb hx
    have hn : n < 10 := by omega
    refine Ev.step (f := fun _ => some (S (digs n ++ x))) (fun r => ?_) (Ev.now _)
    simp only [mezzotintref01_udec.l0, Option.bind_some]
    rw [show ((48 + ((n : Int).tmod 10) % 256) % 256 : Int) = ((48 + n % 10 : Nat) : Int) from by rw [tm _ _ (by omega)]; omega, S_nums, S_append, S_size, S_size,
      if_pos (by simp; omega), show (n : Int).tdiv 10 = ((n / 10 : Nat) : Int) from by rw [td _ _ (by omega)]; omega, u64_small _ (by omega), if_pos (by omega), digs_small hn, show n % 10 = n from by omega]
  | succ k ih =>
    intro n x hn hb hx
    by_cases h : n < 10
    · refine Ev.step (f := fun _ => some (S (digs n ++ x))) (fun r => ?_) (Ev.now _)
      simp only [mezzotintref01_udec.l0, Option.bind_some]
      rw [show ((48 + ((n : Int).tmod 10) % 256) % 256 : Int) = ((48 + n % 10 : Nat) : Int) from by rw [tm _ _ (by omega)]; omega, S_nums, S_append, S_size, S_size,
        if_pos (by simp; omega), show (n : Int).tdiv 10 = ((n / 10 : Nat) : Int) from by rw [td _ _ (by omega)]; omega, u64_small _ (by omega), if_pos (by omega), digs_small h, show n % 10 = n from by omega]
    · have := ih (n / 10) (UInt8.ofNat (48 + n % 10) :: x) (by rw [Nat.pow_succ] at hn; omega) (by omega) (by simp; omega)
      rw [show digs n ++ x = digs (n / 10) ++ UInt8.ofNat (48 + n % 10) :: x from by rw [digs_big h]; simp]
      refine Ev.step (fun r => ?_) this
      simp only [mezzotintref01_udec.l0, Option.bind_some]
      rw [show ((48 + ((n : Int).tmod 10) % 256) % 256 : Int) = ((48 + n % 10 : Nat) : Int) from by rw [tm _ _ (by omega)]; omega, S_nums, S_append, S_size, S_size,
        if_pos (by simp; omega), show (n : Int).tdiv 10 = ((n / 10 : Nat) : Int) from by rw [td _ _ (by omega)]; omega, u64_small _ (by omega), if_neg (by omega)]
      rfl

/-- Dec of a number that is not below 0 -/
theorem Dec_ev (n : Nat) (h : n < 9223372036854775808) : Ev (fun r => mezzotintref01_Dec.f r n) (S (digs n)) := by
  have := udec_ev 18 n [] (by omega) (by omega) (by simp)
  rw [List.append_nil] at this
  refine Ev.congr (fun r => ?_) this
  unfold mezzotintref01_Dec.f mezzotintref01_udec.f
  rw [if_neg (by omega), u64_small _ (by omega)]
  show (mezzotintref01_udec.l0 r n (S [])).bind (fun t => some t) = _
  cases mezzotintref01_udec.l0 r n (S []) <;> rfl

theorem not35 (a : List UInt8) (h : a.all isDig = true) : ∀ x ∈ a, x ≠ 35 := by
  intro x hx e
  have := List.all_eq_true.1 h x hx
  rw [e] at this
  revert this; decide
/-- one digit -/
def rch (small : Bool) (d : Nat) : Nat := if 9 < d then (if small then 87 + d else 55 + d) else 48 + d
theorem rch_dig (small : Bool) (d : Nat) (h : d ≤ 35) : rch small d < 256 ∧ digV (rch small d) = d := by
  unfold rch digV
  by_cases h9 : 9 < d
  · rw [if_pos h9]
    cases small
    · simp only [Bool.false_eq_true, if_false]
      refine ⟨by omega, ?_⟩
      rw [if_neg (by omega), if_neg (by omega), if_pos (by omega)]
      omega
    · simp only [if_true]
      refine ⟨by omega, ?_⟩
      rw [if_neg (by omega), if_pos (by omega)]
      omega
  · rw [if_neg h9]
    refine ⟨by omega, ?_⟩
    rw [if_pos (by omega)]
    omega
theorem rch_val (small : Bool) (d : Nat) (h : d ≤ 35) : digV (UInt8.ofNat (rch small d)).toNat = d := by
  obtain ⟨h1, h2⟩ := rch_dig small d h
  rw [UInt8.toNat_ofNat', Nat.mod_eq_of_lt (by omega), h2]

/-- the digits in base b, k + 1 at most -/
def rdigs (b : Nat) (small : Bool) : Nat → Nat → List UInt8
  | 0, n => [UInt8.ofNat (rch small (n % b))]
  | k + 1, n => if n / b = 0 then [UInt8.ofNat (rch small (n % b))] else rdigs b small k (n / b) ++ [UInt8.ofNat (rch small (n % b))]

theorem radFold_one (b : Nat) (c : UInt8) (d : Nat) (h : digV c.toNat = d) (hd : d < 4294967296) : radFold b [c] = (d, false) := by
  unfold radFold
  simp only [List.foldl_cons, List.foldl_nil, radStep, Nat.zero_mul, Nat.zero_add, h]
  rw [if_neg (by omega)]
theorem rdigs_fold (b : Nat) (small : Bool) (hb : 2 ≤ b) (hb2 : b ≤ 36) : ∀ (k n : Nat), n < 2 ^ (k + 1) → n < 4294967296 →
    radFold b (rdigs b small k n) = (n, false) ∧ (∀ c ∈ rdigs b small k n, digV c.toNat < b) ∧ rdigs b small k n ≠ [] := by
  intro k
  induction k with
  | zero =>
    intro n hn hn2
    have hlt : n % b < b := Nat.mod_lt _ (by omega)
    have hnb : n % b = n := Nat.mod_eq_of_lt (by omega)
    have hv := rch_val small (n % b) (by omega)
    refine ⟨?_, ?_, by simp [rdigs]⟩
    · rw [rdigs, radFold_one b _ _ hv (by omega), hnb]
    · intro c hc
      simp only [rdigs, List.mem_singleton] at hc
      rw [hc, hv]; exact hlt
  | succ k ih =>
    intro n hn hn2
    have hlt : n % b < b := Nat.mod_lt _ (by omega)
    have hv := rch_val small (n % b) (by omega)
    have hdm : b * (n / b) + n % b = n := Nat.div_add_mod n b
    by_cases h0 : n / b = 0
    · have hnb : n % b = n := by rw [h0, Nat.mul_zero, Nat.zero_add] at hdm; exact hdm
      rw [rdigs, if_pos h0]
      refine ⟨?_, ?_, by simp⟩
      · rw [radFold_one b _ _ hv (by omega), hnb]
      · intro c hc
        rw [List.mem_singleton] at hc
        rw [hc, hv]; exact hlt
    · have hq : n / b < 2 ^ (k + 1) := by
        have h1 : n / b ≤ n / 2 := Nat.div_le_div_left hb (by omega)
        rw [Nat.pow_succ] at hn
        omega
      have hq2 : n / b ≤ n := Nat.div_le_self _ _
      obtain ⟨h1, h2, _⟩ := ih (n / b) hq (by omega)
      rw [rdigs, if_neg h0]
      refine ⟨?_, ?_, by simp⟩
      · rw [radFold_snoc, h1]
        unfold radStep
        rw [hv, Nat.mul_comm (n / b) b, hdm, if_neg (by simp; omega)]
      · intro c hc
        rcases List.mem_append.1 hc with hc | hc
        · exact h2 c hc
        · rw [List.mem_singleton] at hc
          rw [hc, hv]; exact hlt

theorem tok_radix_val (b : Nat) (r : List UInt8) (n : Nat) (hb : 2 ≤ b) (hb2 : b ≤ 36) (hl : (digs b ++ 35 :: r).length ≤ 64) (hf : radFold b r = (n, false)) (hd : ∀ c ∈ r, digV c.toNat < b) (h0 : r ≠ []) :
    tokL (digs b ++ 35 :: r) = (1, (if 2147483648 ≤ n then (n : Int) - 4294967296 else n), true, 0) := by
  obtain ⟨h1, h2, h3⟩ := digs_val 1 b (by omega)
  have hlen : (digs b).length ≤ 2 := digs_lenk 1 b (by omega)
  have hcut : cut1 35 (digs b ++ 35 :: r) = (digs b, r, true) := by
    have hne : ∀ x ∈ digs b, x ≠ 35 := not35 _ h2
    generalize digs b = a at hne
    induction a with
    | nil => simp [cut1]
    | cons c a ih =>
      rw [List.cons_append, cut1, if_neg (hne c (by simp)), ih (fun x hx => hne x (by simp [hx]))]
  have hrad : radixL (digs b ++ 35 :: r) = (1, (if 2147483648 ≤ n then (n : Int) - 4294967296 else n), true, 0) := by
    unfold radixL
    rw [hcut]
    rw [if_neg]
    · simp only [h1]
      unfold radTail
      rw [if_neg, hf]
      · rfl
      · rintro (h | h | h)
        · omega
        · omega
        · rw [List.any_eq_true] at h
          obtain ⟨c, hc, hcb⟩ := h
          have := hd c hc
          have := of_decide_eq_true hcb
          omega
    · rintro (h | h | h | h | h)
      · cases h
      · exact h3 h
      · simp at h; omega
      · rw [h2] at h; cases h
      · exact h0 h
  unfold tokL
  rw [if_neg (by omega), hrad, if_pos rfl]

/-- behind a digit of the law's loop -/
def RT (r : Nat) (x0 : Int) (small : Bool) (b u : Int) (y : ByteArray) : Option Bool :=
  if b = 0 then none else if wrap64 (Int.tdiv u b) = 0 then ((mezzotintref01_Dec.f r b).bind fun t => (if t.size + 1 ≤ 9223372036854775807 then (if (t ++ (⟨#[35]⟩ : ByteArray)).size + y.size ≤ 9223372036854775807 then
    ((dec_Token.f ((t ++ (⟨#[35]⟩ : ByteArray)) ++ y)).bind fun bt => ((mezzotintlaw02_answers.f).bind fun a => (if a = true then (if bt.2.2.2.1 = true then (if bt.2.2.2.2 = 0 then (if bt.1 = 1 then (some (bt.2.1 == (wrap64 (wrap32 (x0))))) else (some false)) else (some false)) else (some false)) else (some false)))) else (none)) else (none)))
  else (mezzotintlaw02_DecRadix.l0 r x0 small b (wrap64 (Int.tdiv u b)) y)

theorem divN (n b : Nat) (hn : n < 4294967296) : wrap64 (Int.tdiv (n : Int) (b : Int)) = ((n / b : Nat) : Int) := by
  have h : n / b ≤ n := Nat.div_le_self _ _
  rw [td _ _ (by omega), show ((n : Int) / (b : Int)) = ((n / b : Nat) : Int) from by push_cast; rfl]
  generalize n / b = q at *
  exact w64 _ (by omega) (by omega)
theorem modN (n b : Nat) : Int.tmod (n : Int) (b : Int) = ((n % b : Nat) : Int) := by
  rw [tm _ _ (by omega)]; push_cast; rfl

theorem radix_end (x0 : Int) (small : Bool) (b n : Nat) (y : List UInt8) (hb : 2 ≤ b) (hb2 : b ≤ 36) (hn : n < 4294967296) (h0 : n / b = 0) (hy : y.length ≤ 1000)
    (ht : tokL (digs b ++ 35 :: y) = (1, wrap64 (wrap32 x0), true, 0)) : Ev (fun r => RT r x0 small b n (S y)) true := by
  have hlen : (digs b).length ≤ 2 := digs_lenk 1 b (by omega)
  have hbz : ¬ ((b : Int) = 0) := by omega
  have hq : wrap64 (Int.tdiv (n : Int) (b : Int)) = 0 := by rw [divN n b hn, h0]; rfl
  unfold RT
  simp only [if_neg hbz, hq, if_true]
  refine Ev.bind (Dec_ev b (by omega)) ?_
  refine Ev.congr (fun _ => ?_) (Ev.now true)
  rw [if_pos (by rw [S_size]; omega), show (⟨#[35]⟩ : ByteArray) = S [35] from rfl, S_append, S_append, if_pos (by rw [S_size, S_size, List.length_append, List.length_cons, List.length_nil]; omega), answers_f,
    show digs b ++ [35] ++ y = digs b ++ 35 :: y from by simp]
  unfold dec_Token.f
  simp only [S_data, ht, Option.bind_some, if_true]
  simp

theorem radix_j1 (x0 : Int) (small : Bool) (b n : Nat) (x : List UInt8) (d : Nat) (hd : d ≤ 35) (hx : x.length ≤ 1000) (x31 : Bool) (h31 : x31 = (decide (9 < d) && small))
    (H : Ev (fun r => RT r x0 small b n (S (UInt8.ofNat (rch small d) :: x))) true) :
    Ev (fun r => mezzotintlaw02_DecRadix.j1 r x0 small b n (S x) (d : Int) (wrap64 (48 + (d : Int)) % 256) x31) true := by
  have hsz : ∀ c : Nat, (strOfNums [(c : Int)]).size + (S x).size ≤ 9223372036854775807 := fun c => by rw [S_nums, S_size, S_size, List.length_cons, List.length_nil]; omega
  have hap : ∀ c : Nat, strOfNums [(c : Int)] ++ S x = S (UInt8.ofNat c :: x) := fun c => by rw [S_nums, S_append]; rfl
  refine Ev.step (fun r => ?_) H
  rw [mezzotintlaw02_DecRadix.j1]
  have c1 : (wrap64 (wrap64 (97 + (d : Int)) - 10)) % 256 = ((87 + d : Nat) : Int) := by rw [w64 (97 + (d : Int)) (by omega) (by omega), w64 _ (by omega) (by omega)]; omega
  have c2 : (wrap64 (wrap64 (65 + (d : Int)) - 10)) % 256 = ((55 + d : Nat) : Int) := by rw [w64 (65 + (d : Int)) (by omega) (by omega), w64 _ (by omega) (by omega)]; omega
  have c3 : (wrap64 (48 + (d : Int))) % 256 = ((48 + d : Nat) : Int) := by rw [w64 (48 + (d : Int)) (by omega) (by omega)]; omega
  rw [c1, c2, c3]
  simp only [Option.bind_some]
  by_cases h9 : 9 < d
  · cases small with
    | true =>
      have hr : rch true d = 87 + d := by unfold rch; rw [if_pos h9]; rfl
      rw [h31, decide_eq_true h9]
      simp only [Bool.and_true, if_true]
      rw [if_pos (hsz _), hap, hr]
      rfl
    | false =>
      have hr : rch false d = 55 + d := by unfold rch; rw [if_pos h9]; rfl
      rw [h31, Bool.and_false, if_neg (by decide), if_pos (by omega), if_pos (hsz _), hap, hr]
      rfl
  · have hr : rch small d = 48 + d := by unfold rch; rw [if_neg h9]
    rw [h31, decide_eq_false h9, Bool.false_and, if_neg (by decide), if_neg (by omega), if_pos (hsz _), hap, hr]
    rfl

theorem radix_l0 (x0 : Int) (small : Bool) (b : Nat) (hb : 2 ≤ b) (hb2 : b ≤ 36) : ∀ (k n : Nat) (x : List UInt8), n < 2 ^ (k + 1) → n < 4294967296 → x.length + k ≤ 900 →
    tokL (digs b ++ 35 :: (rdigs b small k n ++ x)) = (1, wrap64 (wrap32 x0), true, 0) → Ev (fun r => mezzotintlaw02_DecRadix.l0 r x0 small b n (S x)) true := by
  intro k
  have hbz : ¬ ((b : Int) = 0) := by omega
  -- one round
  have round : ∀ (n : Nat) (x : List UInt8), x.length ≤ 1000 → Ev (fun r => RT r x0 small b n (S (UInt8.ofNat (rch small (n % b)) :: x))) true → Ev (fun r => mezzotintlaw02_DecRadix.l0 r x0 small b n (S x)) true := by
    intro n x hx H
    have hd : n % b ≤ 35 := by have := Nat.mod_lt n (by omega : 0 < b); omega
    refine Ev.step (fun r => ?_) (radix_j1 x0 small b n x (n % b) hd hx _ rfl H)
    rw [mezzotintlaw02_DecRadix.l0, if_neg hbz, modN]
    by_cases h9 : 9 < n % b
    · rw [if_pos (by omega), decide_eq_true h9, Bool.true_and]
    · rw [if_neg (by omega), decide_eq_false h9, Bool.false_and]
  induction k with
  | zero =>
    intro n x hn hn2 hx ht
    refine round n x (by omega) (radix_end x0 small b n _ hb hb2 hn2 (Nat.div_eq_of_lt (by omega)) (by simp; omega) ?_)
    simpa [rdigs] using ht
  | succ k ih =>
    intro n x hn hn2 hx ht
    by_cases h0 : n / b = 0
    · rw [rdigs, if_pos h0] at ht
      exact round n x (by omega) (radix_end x0 small b n _ hb hb2 hn2 h0 (by simp; omega) (by simpa using ht))
    · rw [rdigs, if_neg h0] at ht
      have hq : n / b < 2 ^ (k + 1) := by
        have h1 : n / b ≤ n / 2 := Nat.div_le_div_left hb (by omega)
        rw [Nat.pow_succ] at hn
        omega
      have hq2 : n / b ≤ n := Nat.div_le_self _ _
      have H := ih (n / b) (UInt8.ofNat (rch small (n % b)) :: x) hq (by omega) (by simp; omega) (by simpa using ht)
      refine round n x (by omega) (Ev.congr (fun r => ?_) H)
      unfold RT
      rw [if_neg hbz, divN n b hn2, if_neg (by omega)]

end Go.Proofs.YtiocgpfnbmlfaaaDoor.QD
namespace Go.Proofs.YtiocgpfnbmlfaaaDoor.Pure
open Go Go.RowKit Go.Proofs.YtiocgpfnbmlfaaaDoor Go.Proofs.YtiocgpfnbmlfaaaDoor.PQ Go.Proofs.YtiocgpfnbmlfaaaDoor.QD Go.Proofs.YtiocgpfnbmlfaaaDoorW.PrintWords Go.Proofs.YtiocgpfnbmlfaaaDoorW.PrintLast

theorem DecRadix : mezzotintlaw02_DecRadix.Pure := by
  intro x0 x1 small hx0 hx1
  refine Ev.rounds ?_
  have h0 : 0 ≤ x0 ∧ x0 ≤ 4294967295 := by
    simp only [Lit.wf, Bool.and_eq_true, decide_eq_true_eq] at hx0
    rw [show IntKind.min .u32 = 0 from by decide, show IntKind.max .u32 = 4294967295 from by decide] at hx0
    exact hx0
  have h1 : 0 ≤ x1 ∧ x1 ≤ 255 := by
    simp only [Lit.wf, Bool.and_eq_true, decide_eq_true_eq] at hx1
    rw [show IntKind.min .u8 = 0 from by decide, show IntKind.max .u8 = 255 from by decide] at hx1
    exact hx1
  clear hx0 hx1
  obtain ⟨n, rfl⟩ : ∃ n : Nat, x0 = n := ⟨x0.toNat, by omega⟩
  obtain ⟨b, hb⟩ : ∃ b : Nat, wrap64 (wrap64 (Int.tmod x1 35) + 2) = b := ⟨(x1 % 35 + 2).toNat, by rw [tm _ _ h1.1, w64 (x1 % 35) (by omega) (by omega), w64 _ (by omega) (by omega)]; omega⟩
  have hbr : 2 ≤ b ∧ b ≤ 36 := by rw [tm _ _ h1.1, w64 (x1 % 35) (by omega) (by omega), w64 _ (by omega) (by omega)] at hb; omega
  obtain ⟨f1, f2, f3⟩ := rdigs_fold b small hbr.1 hbr.2 31 n (by omega) (by omega)
  have hlen : ∀ k n, (rdigs b small k n).length ≤ k + 1 := by
    intro k
    induction k with
    | zero => intro n; simp [rdigs]
    | succ k ih => intro n; rw [rdigs]; split
                   · simp
                   · have := ih (n / b); simp; omega
  have hdl : (digs b).length ≤ 2 := digs_lenk 1 b (by omega)
  have hr := hlen 31 n
  have ht := tok_radix_val b (rdigs b small 31 n) n hbr.1 hbr.2 (by rw [List.length_append, List.length_cons]; omega) f1 f2 f3
  unfold mezzotintlaw02_DecRadix.f
  rw [hb, w64 (n : Int) (by omega) (by omega)]
  refine radix_l0 (n : Int) small b hbr.1 hbr.2 31 n [] (by omega) (by omega) (by simp) ?_
  rw [List.append_nil, ht]
  have hw : wrap64 (wrap32 (n : Int)) = (if 2147483648 ≤ n then (n : Int) - 4294967296 else n) := by
    unfold wrap32
    split
    · rw [w64 _ (by omega) (by omega)]; omega
    · rw [w64 _ (by omega) (by omega)]; omega
  rw [hw]

end Go.Proofs.YtiocgpfnbmlfaaaDoor.Pure
