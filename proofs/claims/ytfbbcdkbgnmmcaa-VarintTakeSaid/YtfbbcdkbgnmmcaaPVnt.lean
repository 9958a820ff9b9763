/- The laws of layer 2. Conditions: the statements' own. -/
import Derived.Test.YtfbbcdkbgnmmcaaPVntVar
set_option linter.all false
set_option linter.unusedVariables false
set_option linter.unusedSimpArgs false
set_option linter.deprecated false
namespace Go.Eng.Vnt
open Go.RowKit Go.Eng Go.Eng.LVar
set_option maxRecDepth 100000
abbrev sBo : Sig := ⟨[(false, .bool)], []⟩
abbrev sSt : Sig := ⟨[(false, .str)], []⟩
abbrev I : K := .int .i64
abbrev I64n (n : Int) : Prop := -9223372036854775808 ≤ n ∧ n ≤ 9223372036854775807
theorem awake_ev : Ev1 (fun k => CF k sBo n_law02_awake []) true := Ev1.of_rfl 30 (fun k => by kernel_rfl)
theorem one_I64 {a : Int} (h : I64n a) : I64 [a] := fun x hx => by
  rcases List.mem_cons.1 hx with rfl | hx
  · exact h
  · cases hx
theorem encs_one (a : Int) : encs [a] = enc (zig a) := by simp [encs]
theorem one_ev {a : Int} (h : I64n a) : Ev1 (fun k => CF k sBy n_varint_All [inj (.slice I) [a]]) (enc (zig a)) := by
  rw [← encs_one]; exact all_ev [a] (one_I64 h) (by simp)
theorem bytes_l0 (d : Nat) : ∀ (u : Nat) (s : List Int), u < d → u < 18446744073709551616 → s.length + (enc u).length < 9223372036854775808 → Ev2 (fun k m => h_law02_bytes k m (u : Int) s) (s ++ enc u) := by
  induction d with
  | zero => intro u x h; omega
  | succ d ih =>
    intro u x h hu hx
    refine Ev2.step (fun k m => h_law02_bytes_s k m (u : Int) x) ?_
    by_cases hb : 128 ≤ u
    · rw [enc_big hb] at hx ⊢
      simp only [List.length_cons] at hx
      have hl := List.length_pos_iff.2 (enc_ne (u / 128))
      refine Ev2.posD (by omega) (Ev2.posD (by simp only [List.length_cons, List.length_nil]; omega) ?_)
      have e1 : Int.tmod (u : Int) 128 = ((u % 128 : Nat) : Int) := by rw [Int.tmod_eq_emod_of_nonneg (by omega)]; omega
      have e2 : wu64 (Int.tdiv (u : Int) 128) = ((u / 128 : Nat) : Int) := by rw [Int.tdiv_eq_ediv_of_nonneg (by omega), wu64_eq (by omega) (by omega)]; omega
      have e3 : w8 (w8 ((u % 128 : Nat) : Int) + 128) = ((u % 128 + 128 : Nat) : Int) := by rw [w8_mod, w8_mod]; omega
      rw [e1, e2, e3, show (x ++ ((u % 128 + 128 : Nat) : Int) :: enc (u / 128)) = (x ++ [((u % 128 + 128 : Nat) : Int)]) ++ enc (u / 128) by simp]
      exact ih (u / 128) _ (by omega) (by omega) (by simp; omega)
    · rw [enc_small (by omega)] at hx ⊢
      simp only [List.length_singleton] at hx
      refine Ev2.negD (by omega) (Ev2.posD (by simp only [List.length_cons, List.length_nil]; omega) (Ev2.const ?_))
      rw [show w8 (u : Int) = (u : Int) by rw [w8_mod]; omega]
theorem bytes_ev (n : Int) (hn : I64n n) : Ev1 (fun k => CF k sSt n_law02_bytes [inj I n]) (enc (zig n)) := by
  have hz := zig_lt hn
  have hl := enc_len10 hz
  have main := (bytes_l0 (zig n + 1) (zig n) [] (by omega) hz (by simp; omega)).diag
  rw [List.nil_append] at main
  refine Ev1.step (fun k => f_law02_bytes k n) ?_
  by_cases h : n < 0
  · refine Ev1.posD h ?_
    have e : wu64 (wu64 (2 * wu64 (w64 (-1 - n))) + 1) = (zig n : Int) := by
      rw [w64_id (by omega), wu64_mod, wu64_mod, wu64_mod]; unfold zig; rw [if_pos h]; omega
    rw [e]; exact main
  · refine Ev1.negD h ?_
    have e : wu64 (2 * wu64 n) = (zig n : Int) := by
      rw [wu64_mod, wu64_mod]; unfold zig; rw [if_neg h]; omega
    rw [e]; exact main
theorem zig_inj {a b : Int} (h : zig a = zig b) : a = b := by rw [← unzig_zig a, h, unzig_zig]
theorem VarintTwo (a b : Int) (ha : I64n a) (hb : I64n b) : Ev1 (fun k => CF k sBo n_law02_VarintTwo [inj I a, inj I b]) true := by
  have l1 := enc_len10 (zig_lt ha)
  have hp : ∀ s, enc (zig a) ++ s = enc (zig b) → a = b := fun s h => zig_inj (enc_prefix (r := s) (s := []) (zig_lt ha) (zig_lt hb) (by simpa using h)).1
  refine Ev1.step (fun k => f_law02_VarintTwo k a b) (Ev1.bind awake_ev (Ev1.neg rfl (Ev1.bind (one_ev ha) (Ev1.bind (one_ev hb) (Ev1.neg ?_ (Ev1.negD (by omega) (Ev1.negD (by omega) ?_)))))))
  · rw [Bool.not_eq_false', beq_iff_eq]
    exact decide_eq_decide.2 ⟨fun h => hp [] (by simpa using h), fun h => by rw [h]⟩
  · refine Ev1.iff (fun h => Ev1.now _) fun h => Ev1.iff (fun _ => Ev1.now _) fun h2 => Ev1.pos (and2 (by omega) (by omega)) (Ev1.const (congrArg some ?_))
    rw [decide_eq_false]
    · rfl
    · intro e
      refine h (hp ((enc (zig b)).drop (enc (zig a)).length) ?_)
      rw [Int.toNat_natCast, Nat.sub_zero, List.drop_zero] at e
      conv => lhs; lhs; rw [← e]
      exact List.take_append_drop _ _
theorem VarintSmall (n : Int) (b : List Int) (hn : -128 ≤ n ∧ n ≤ 127) (hb : Byt b) (hl : b.length ≤ 140737488351232) : Ev1 (fun k => CF k sBo n_law02_VarintSmall [inj (.int .i8) n, inj (.slice (.int .u8)) b]) true := by
  have hw : w64 n = n := w64_id (by omega)
  refine Ev1.step (fun k => f_law02_VarintSmall k n b) (Ev1.bind awake_ev (Ev1.neg rfl ?_))
  rw [hw]
  refine Ev1.bind (one_ev (a := n) (by constructor <;> omega)) ?_
  have big : n < -64 ∨ 63 < n → (enc (zig n)).length = 2 := by
    intro h
    have h1 : 128 ≤ zig n ∧ zig n < 16384 := by unfold zig; split <;> omega
    rw [enc_big h1.1, enc_small (by omega)]; rfl
  refine Ev1.iff (fun h => Ev1.const (congrArg some (decide_eq_true (by rw [big (.inl h)]; rfl)))) fun h => Ev1.iff (fun h2 => Ev1.const (congrArg some (decide_eq_true (by rw [big (.inr h2)]; rfl)))) fun h2 => ?_
  have h1 : zig n < 128 := by unfold zig; split <;> omega
  have hz : zig n < 18446744073709551616 := by omega
  have hg := get_ev (enc (zig n) ++ b) (Byt.append (enc_byt _) hb) (by rw [enc_small h1]; simp; omega)
  rw [get_enc _ _ hz] at hg
  rw [enc_small h1] at hg ⊢
  refine Ev1.posD (by simp only [List.length_cons, List.length_nil]; omega) (Ev1.bind hg (Ev1.posD rfl (Ev1.pos rfl (Ev1.posD ?_ (Ev1.const (congrArg some (decide_eq_true rfl)))))))
  exact unzig_zig n
/-! Take. -/
theorem take_neg (b : List Int) (n : Int) (hn : n ≤ 0) : Ev1 (fun k => CF k sTake n_varint_Take [inj (.slice (.int .u8)) b, inj I n]) ([], b, true) := by
  refine Ev1.step (fun k => f_varint_Take k b n) ?_
  refine (Ev2.diag (f := fun k m => h_varint_Take k m b n []) (Ev2.step (fun k m => h_varint_Take_s k m b n []) (Ev2.negD ?_ (Ev2.now _))))
  simp only [List.length_nil]; omega
theorem takes_more : ∀ (ns : List Int), I64 ns → ∀ (m : Nat), ns.length < m → takes m (encs ns ++ [255]) = none
  | [], _, m + 1, _ => by
    have : get [255] = none := by decide +kernel
    simp [takes, encs, this]
  | n :: ns, h, m + 1, hm => by
    simp only [takes, encs, List.append_assoc]
    rw [get_enc _ _ (zig_lt (h n (by simp)))]
    have := takes_more ns (fun x hx => h x (by simp [hx])) m (by simpa using hm)
    simp [this]
theorem takes_part (ns : List Int) (h : I64 ns) (m : Nat) (hm : m ≤ ns.length) (r : List Int) : takes m (encs ns ++ r) = some (ns.take m, encs (ns.drop m) ++ r) := by
  have h1 : I64 (ns.take m) := fun x hx => h x (List.mem_of_mem_take hx)
  have e : encs ns ++ r = encs (ns.take m) ++ (encs (ns.drop m) ++ r) := by
    rw [← List.append_assoc, ← encs_app, List.take_append_drop]
  rw [e]
  have := takes_encs (ns := ns.take m) (encs (ns.drop m) ++ r) h1
  rwa [List.length_take, Nat.min_eq_left hm] at this
/-- What is left is laid anew, number by number. -/
theorem want_l0 (ns rest : List Int) (hn : I64 ns) (hl : ns.length ≤ 17592186043904) (M : Int) (xs left : List Int) (ok : Bool) (R : Bool) (W : List Int)
    (hfin : Ev2 (fun k (_ : Nat) => (bif (!ok) then some false
 else (bif (!decide ((xs.length : Int) = (maxI (0 : Int) M))) then some false
 else (bif decide ((W.length + 1) < 9223372036854775808) then (bif (!decide (left = (W ++ ([255] : List Int)))) then some false
 else (h_law02_VarintTake_1 k k ns rest xs (xs.length : Int) (0 : Int)))
 else none)))) R) : ∀ (d i : Nat) (w : List Int), i + d = ns.length → w ++ encs (ns.drop i) = W → w.length ≤ 10 * i → Ev2 (fun k m => h_law02_VarintTake k m ns rest M xs left ok w (i : Int)) R
  | 0, i, w, h, hw, hwl => by
    refine Ev2.step (fun k m => h_law02_VarintTake_s k m ns rest M xs left ok w (i : Int)) (Ev2.negD (by omega) ?_)
    rw [List.drop_of_length_le (by omega)] at hw
    simp only [encs, List.append_nil] at hw
    subst hw
    exact hfin
  | d + 1, i, w, h, hw, hwl => by
    refine Ev2.step (fun k m => h_law02_VarintTake_s k m ns rest M xs left ok w (i : Int)) (Ev2.posD (by omega) (Ev2.pos (inb_true (by omega) (by omega)) ?_))
    have hx := hn ns[i] (List.getElem_mem (by omega))
    have he := enc_len10 (zig_lt hx)
    rw [getD_nat ns i _ (by omega), wnat (by omega)]
    refine Ev2.bind (bytes_ev _ hx) (Ev2.posD (by omega) ?_)
    refine want_l0 ns rest hn hl M xs left ok R W hfin d (i + 1) (w ++ enc (zig ns[i])) (by omega) ?_ (by simp; omega)
    rw [← hw, List.drop_eq_getElem_cons (show i < ns.length by omega), encs, List.append_assoc]
theorem same_l0 (ns rest xs : List Int) (hl : ns.length ≤ 17592186043904) (h : ∀ i, (hi : i < xs.length) → ∃ h2 : i < ns.length, xs[i] = ns[i]) : ∀ (d i : Nat), i + d = xs.length → Ev2 (fun k m => h_law02_VarintTake_1 k m ns rest xs (xs.length : Int) (i : Int)) true
  | 0, i, hi => Ev2.step (fun k m => h_law02_VarintTake_1_s k m ns rest xs (xs.length : Int) (i : Int)) (Ev2.negD (by omega) (Ev2.bind (take_neg rest (-1) (by omega)) (Ev2.now _)))
  | d + 1, i, hi => by
    obtain ⟨h2, h3⟩ := h i (by omega)
    refine Ev2.step (fun k m => h_law02_VarintTake_1_s k m ns rest xs (xs.length : Int) (i : Int)) (Ev2.posD (by omega) (Ev2.pos (inb_true (by omega) (by omega)) (Ev2.pos (inb_true (by omega) (by omega)) ?_)))
    rw [getD_nat xs i _ (by omega), getD_nat ns i _ (by omega), h3, wnat (by omega)]
    refine Ev2.neg (by rw [decide_eq_true rfl]; rfl) (same_l0 ns rest xs hl h d (i + 1) (by omega))
theorem VarintTake (ns : List Int) (n : Int) (rest : List Int) (hns : I64 ns) (hl : ns.length ≤ 17592186043904) (hn : -128 ≤ n ∧ n ≤ 127) : Ev1 (fun k => CF k sBo n_law02_VarintTake [inj (.slice I) ns, inj (.int .i8) n, inj (.slice (.int .u8)) rest]) true := by
  have hw : w64 n = n := w64_id (by omega)
  have hel := encs_len hns
  have hby : Byt (encs ns ++ [255]) := Byt.append (encs_byt _) (Byt.cons (by omega) Byt.nil)
  refine Ev1.step (fun k => f_law02_VarintTake k ns n rest) (Ev1.bind awake_ev (Ev1.neg rfl (Ev1.bind (all_ev ns hns (by omega)) (Ev1.posD (by omega) ?_))))
  rw [hw]
  have hm0 : maxI 0 n = ((n.toNat : Nat) : Int) := by
    unfold maxI
    by_cases h : 0 < n
    · rw [decide_eq_true h, cond_true]; omega
    · rw [decide_eq_false h, cond_false]; omega
  -- behind the call
  have go : ∀ (xs left : List Int), n ≤ ns.length → xs = ns.take n.toNat → left = encs (ns.drop n.toNat) ++ [255] → Ev1 (fun k => h_law02_VarintTake k k ns rest n xs left true [] (maxI 0 n)) true := by
    intro xs left hle hxs hleft
    have hxl : xs.length = n.toNat := by rw [hxs, List.length_take]; omega
    rw [hm0]
    refine Ev2.diag (f := fun k m => h_law02_VarintTake k m ns rest n xs left true [] ((n.toNat : Nat) : Int)) ?_
    refine want_l0 ns rest hns hl n xs left true true (encs (ns.drop n.toNat)) ?_ (ns.length - n.toNat) n.toNat [] (by omega) rfl (by simp)
    have hel2 := encs_len (ns := ns.drop n.toNat) (fun x hx => hns x (List.mem_of_mem_drop hx))
    have hdl : (ns.drop n.toNat).length ≤ ns.length := by rw [List.length_drop]; omega
    refine Ev2.neg rfl (Ev2.neg ?_ (Ev2.posD (by omega) (Ev2.neg ?_ ?_)))
    · rw [hm0, decide_eq_true (by rw [hxl])]; rfl
    · rw [decide_eq_true hleft]; rfl
    · refine Ev1.drop (Ev2.diag (f := fun k m => h_law02_VarintTake_1 k m ns rest xs (xs.length : Int) ((0 : Nat) : Int)) (same_l0 ns rest xs hl ?_ xs.length 0 (by omega)))
      intro i hi
      refine ⟨by omega, ?_⟩
      subst hxs
      exact List.getElem_take
  by_cases hneg : n ≤ 0
  · refine Ev1.bind (take_neg _ n hneg) (Ev1.negD (by omega) ?_)
    have h0 : n.toNat = 0 := by omega
    exact go [] (encs ns ++ [255]) (by omega) (by rw [h0]; rfl) (by rw [h0]; rfl)
  · have hnn : n = ((n.toNat : Nat) : Int) := by omega
    have ht := take_ev (encs ns ++ [255]) n.toNat (by omega) hby (by simp; omega)
    rw [← hnn] at ht
    refine Ev1.bind ht ?_
    by_cases hm : ns.length < n.toNat
    · rw [takes_more ns hns _ hm]
      refine Ev1.posD (by omega) (Ev1.pos rfl (Ev1.posD rfl (Ev1.const rfl)))
    · rw [takes_part ns hns _ (by omega)]
      refine Ev1.negD (by omega) ?_
      exact go _ _ (by omega) rfl rfl
theorem okN_of (l : List Int) (h : l.length * 8 ≤ 140737488351232 ∧ ∀ x ∈ l, (Lit.int .i64 x).wf = true) : I64 l ∧ l.length ≤ 17592186043904 := ⟨fun x hx => wf_i64 (h.2 x hx), by omega⟩
theorem okB_of (l : List Int) (h : l.length * 1 ≤ 140737488351232 ∧ ∀ x ∈ l, (Lit.int .u8 x).wf = true) : Byt l ∧ l.length ≤ 140737488351232 := ⟨fun x hx => wf_u8 (h.2 x hx), by omega⟩
end Go.Eng.Vnt
