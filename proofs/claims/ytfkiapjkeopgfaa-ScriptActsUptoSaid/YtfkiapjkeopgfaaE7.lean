/- Structs that are compared. -/
import Derived.Test.YtfkiapjkeopgfaaE6
set_option linter.all false
set_option linter.unusedVariables false
set_option linter.unusedSimpArgs false
set_option linter.deprecated false
namespace Go.Eng
open Go.RowKit
def vOf (g : Bool) (l : List Value) : Value := bif g then .agg l.toArray else l.headD undef
theorem run_part {P : Program} {w : World} {t : TypeId} {n : Nat} {g : Bool} (hs : sizeT P t = some n) (hg : aggT P t = some g) (cs : Array Value) (off : Nat) (hl : g = false → n = 1) (ho : off + n ≤ cs.size) :
    (part t cs off).run P w = .ok (vOf g ((cs.toList.drop off).take n)) w := by
  unfold part
  rw [run_ok (run_isAgg hg w)]
  cases g with
  | true =>
    rw [if_pos rfl]
    rw [run_ok (run_sizeOf hs w)]
    show Result.ok (Value.agg _) _ = Result.ok (Value.agg _) _
    congr 2
    apply Array.ext'
    simp [Array.toList_extract, List.extract]
  | false =>
    rw [if_neg (by decide)]
    have h1 := hl rfl
    subst h1
    have : cs[off]? = some cs[off] := by simp
    rw [this]
    show Result.ok _ _ = _
    congr 1
    simp only [vOf, cond_false]
    have e : cs.toList.drop off = cs[off] :: cs.toList.drop (off + 1) := by
      rw [List.drop_eq_getElem_cons (by simp; omega)]; simp
    rw [e]; rfl
theorem run_all {P : Program} {w : World} {α : Type} {body : α → Option Bool × Unit → Sem (ForInStep (Option Bool × Unit))} : ∀ (l : List α) (bs : List Bool),
    LR (fun a b => (body a (none, ())).run P w = .ok (if b = true then .yield (none, ()) else .done (some false, ())) w) l bs →
    (forIn l (none, ()) body).run P w = .ok (if bs.all id = true then (none, ()) else (some false, ())) w
  | [], [], _ => by rw [List.forIn_nil]; rfl
  | a :: r, b :: bs, h => by
    rw [List.forIn_cons, run_ok h.1]
    cases b with
    | true =>
      simp only [if_true]
      rw [run_all r bs h.2]; simp
    | false => simp
  | [], _ :: _, h => h.elim
  | _ :: _, [], h => h.elim
theorem eqCells_append : ∀ (ks ks' : List K) (X Y : List S) (b : Bool), eqCells (ks ++ ks') X Y = some b →
    ∃ b1 b2, eqCells ks (X.take ks.length) (Y.take ks.length) = some b1 ∧ eqCells ks' (X.drop ks.length) (Y.drop ks.length) = some b2 ∧ b = (b1 && b2) ∧ ks.length ≤ X.length ∧ ks.length ≤ Y.length
  | [], ks', X, Y, b, h => ⟨true, b, by simp [eqCells], by simpa using h, by simp, by simp, by simp⟩
  | .int k :: ks, ks', X, Y, b, h => by
    match X, Y with
    | .int a x :: X, .int c y :: Y =>
      simp only [List.cons_append, eqCells] at h
      cases hk : (decide (a = k) && decide (c = k)) with
      | false => rw [hk] at h; cases h
      | true =>
        rw [hk] at h
        simp only [cond_true] at h
        split at h
        · rename_i q hq
          simp only [Option.some.injEq] at h; subst h
          obtain ⟨b1, b2, h1, h2, rfl, h4, h5⟩ := eqCells_append ks ks' X Y q hq
          exact ⟨decide (x = y) && b1, b2, by simp [eqCells, hk, h1], by simpa using h2, by rw [Bool.and_assoc], by simpa using h4, by simpa using h5⟩
        · cases h
    | [], _ => simp [eqCells] at h
    | .int .. :: _, [] => simp [eqCells] at h
    | .int .. :: _, .undef :: _ | .int .. :: _, .bool _ :: _ | .int .. :: _, .str _ :: _ | .int .. :: _, .err _ :: _ | .int .. :: _, .fn _ :: _ | .int .. :: _, .nilS :: _ | .int .. :: _, .sl .. :: _ | .int .. :: _, .vw .. :: _ | .int .. :: _, .pv .. :: _ | .int .. :: _, .ptr .. :: _ | .int .. :: _, .ipt .. :: _ | .int .. :: _, .mv .. :: _ | .int .. :: _, .io .. :: _ => simp [eqCells] at h
    | .undef :: _, _ | .bool _ :: _, _ | .str _ :: _, _ | .err _ :: _, _ | .fn _ :: _, _ | .nilS :: _, _ | .sl .. :: _, _ | .vw .. :: _, _ | .pv .. :: _, _ | .ptr .. :: _, _ | .mp _ :: _, _ | .clo _ _ _ :: _, _ | .ipt .. :: _, _ | .mv .. :: _, _ | .io .. :: _, _ => simp [eqCells] at h
  | .bool :: ks, ks', X, Y, b, h => by
    match X, Y with
    | .bool x :: X, .bool y :: Y =>
      simp only [List.cons_append, eqCells] at h
      split at h
      · rename_i q hq
        simp only [Option.some.injEq] at h; subst h
        obtain ⟨b1, b2, h1, h2, rfl, h4, h5⟩ := eqCells_append ks ks' X Y q hq
        exact ⟨(x == y) && b1, b2, by simp [eqCells, h1], by simpa using h2, by rw [Bool.and_assoc], by simpa using h4, by simpa using h5⟩
      · cases h
    | [], _ => simp [eqCells] at h
    | .bool .. :: _, [] => simp [eqCells] at h
    | .bool .. :: _, .undef :: _ | .bool .. :: _, .int .. :: _ | .bool .. :: _, .str _ :: _ | .bool .. :: _, .err _ :: _ | .bool .. :: _, .fn _ :: _ | .bool .. :: _, .nilS :: _ | .bool .. :: _, .sl .. :: _ | .bool .. :: _, .vw .. :: _ | .bool .. :: _, .pv .. :: _ | .bool .. :: _, .ptr .. :: _ | .bool .. :: _, .ipt .. :: _ | .bool .. :: _, .mv .. :: _ | .bool .. :: _, .io .. :: _ => simp [eqCells] at h
    | .undef :: _, _ | .int .. :: _, _ | .str _ :: _, _ | .err _ :: _, _ | .fn _ :: _, _ | .nilS :: _, _ | .sl .. :: _, _ | .vw .. :: _, _ | .pv .. :: _, _ | .ptr .. :: _, _ | .mp _ :: _, _ | .clo _ _ _ :: _, _ | .ipt .. :: _, _ | .mv .. :: _, _ | .io .. :: _, _ => simp [eqCells] at h
  | .str :: ks, ks', X, Y, b, h => by
    match X, Y with
    | .str x :: X, .str y :: Y =>
      simp only [List.cons_append, eqCells] at h
      split at h
      · rename_i q hq
        simp only [Option.some.injEq] at h; subst h
        obtain ⟨b1, b2, h1, h2, rfl, h4, h5⟩ := eqCells_append ks ks' X Y q hq
        exact ⟨decide (x = y) && b1, b2, by simp [eqCells, h1], by simpa using h2, by rw [Bool.and_assoc], by simpa using h4, by simpa using h5⟩
      · cases h
    | [], _ => simp [eqCells] at h
    | .str .. :: _, [] => simp [eqCells] at h
    | .str .. :: _, .undef :: _ | .str .. :: _, .int .. :: _ | .str .. :: _, .bool _ :: _ | .str .. :: _, .err _ :: _ | .str .. :: _, .fn _ :: _ | .str .. :: _, .nilS :: _ | .str .. :: _, .sl .. :: _ | .str .. :: _, .vw .. :: _ | .str .. :: _, .pv .. :: _ | .str .. :: _, .ptr .. :: _ | .str .. :: _, .ipt .. :: _ | .str .. :: _, .mv .. :: _ | .str .. :: _, .io .. :: _ => simp [eqCells] at h
    | .undef :: _, _ | .int .. :: _, _ | .bool _ :: _, _ | .err _ :: _, _ | .fn _ :: _, _ | .nilS :: _, _ | .sl .. :: _, _ | .vw .. :: _, _ | .pv .. :: _, _ | .ptr .. :: _, _ | .mp _ :: _, _ | .clo _ _ _ :: _, _ | .ipt .. :: _, _ | .mv .. :: _, _ | .io .. :: _, _ => simp [eqCells] at h
  | .err :: ks, _, _, _, _, h | .fn :: ks, _, _, _, _, h | .slice _ :: ks, _, _, _, _, h | .prod .. :: ks, _, _, _, _, h | .strct _ :: ks, _, _, _, _, h => by simp [eqCells] at h
theorem eqCells_len : ∀ (ks : List K) (X Y : List S) (b : Bool), eqCells ks X Y = some b → X.length = ks.length ∧ Y.length = ks.length
  | ks, X, Y, b, h => by
    obtain ⟨b1, b2, h1, h2, _, h4, h5⟩ := eqCells_append ks [] X Y b (by simpa using h)
    have hx : X.drop ks.length = [] ∧ Y.drop ks.length = [] := by
      cases hX : X.drop ks.length with
      | nil => cases hY : Y.drop ks.length with
        | nil => exact ⟨rfl, rfl⟩
        | cons a r => rw [hX, hY] at h2; simp [eqCells] at h2
      | cons a r => rw [hX] at h2; simp [eqCells] at h2
    have h6 := List.drop_eq_nil_iff.1 hx.1
    have h7 := List.drop_eq_nil_iff.1 hx.2
    omega
theorem flat_size_pos {P : Program} : ∀ (d : Nat) (t : TypeId) (ks : List K) (g : Bool), flat P d t = some ks → aggT P t = some g → g = false → ks.length = 1
  | 0, _, _, _, h, _, _ => by simp [flat] at h
  | d + 1, t, ks, g, h, hg, h0 => by
    subst h0
    unfold flat at h
    unfold aggT at hg
    cases hu : P.underlying t with
    | none => rw [hu] at hg; cases hg
    | some td =>
      rw [hu] at h hg
      cases td <;> simp at hg h <;> subst h <;> rfl
theorem eq_run {P : Program} {c : Cx} {w : World} : ∀ (d : Nat) (t : TypeId) (ks : List K), flat P d t = some ks → ∀ (m : Nat), d ≤ m → ∀ (X Y : List S) (vx vy : List Value) (b : Bool), LR (RepS c) X vx → LR (RepS c) Y vy → eqCells ks X Y = some b →
    ∃ g, aggT P t = some g ∧ (Op.equalIn m t (vOf g vx) (vOf g vy)).run P w = .ok b w
  | 0, _, _, h, _, _, _, _, _, _, _, _, _, _ => by simp [flat] at h
  | d + 1, t, ks, h, 0, hm, _, _, _, _, _, _, _, _ => by omega
  | d + 1, t, ks, h, m + 1, hm, X, Y, vx, vy, b, hX, hY, he => by
    unfold flat at h
    cases hu : P.underlying t with
    | none => rw [hu] at h; cases h
    | some td =>
      rw [hu] at h
      cases td with
      | int k =>
        simp only [Option.some.injEq] at h; subst h
        refine ⟨false, by simp [aggT, hu], ?_⟩
        match X, Y, vx, vy, hX, hY, he with
        | .int a x :: X, .int e y :: Y, v :: vs, u :: us, hX, hY, he2 =>
          simp only [eqCells] at he2
          obtain ⟨⟨rfl, _⟩, _⟩ := hX
          obtain ⟨⟨rfl, _⟩, _⟩ := hY
          by_cases h1 : a = k <;> by_cases h2 : e = k <;> simp [h1, h2] at he2
          clear he
          have he := he2
          rw [h1, h2]
          split at he
          · rename_i q hq
            have hxy := eqCells_len _ _ _ _ hq
            match X, Y, hxy with
            | [], [], _ =>
              simp [eqCells] at hq; subst hq
              simp at he; subst he
              unfold Op.equalIn
              rw [run_ok (run_underlying hu w)]
              simp [vOf]
              rfl
          · cases he
      | bool =>
        simp only [Option.some.injEq] at h; subst h
        refine ⟨false, by simp [aggT, hu], ?_⟩
        match X, Y, vx, vy, hX, hY, he with
        | .bool x :: X, .bool y :: Y, v :: vs, u :: us, hX, hY, he =>
          simp only [eqCells] at he
          have e1 : v = .bool x := hX.1
          have e2 : u = .bool y := hY.1
          subst e1; subst e2
          split at he
          · rename_i q hq
            have hxy := eqCells_len _ _ _ _ hq
            match X, Y, hxy with
            | [], [], _ =>
              simp [eqCells] at hq; subst hq
              simp only [Bool.and_true, Option.some.injEq] at he; subst he
              unfold Op.equalIn
              rw [run_ok (run_underlying hu w)]
              rfl
          · cases he
      | string =>
        simp only [Option.some.injEq] at h; subst h
        refine ⟨false, by simp [aggT, hu], ?_⟩
        match X, Y, vx, vy, hX, hY, he with
        | .str x :: X, .str y :: Y, v :: vs, u :: us, hX, hY, he =>
          simp only [eqCells] at he
          obtain ⟨⟨sa, rfl, rfl⟩, _⟩ := hX
          obtain ⟨⟨sb, rfl, rfl⟩, _⟩ := hY
          split at he
          · rename_i q hq
            have hxy := eqCells_len _ _ _ _ hq
            match X, Y, hxy with
            | [], [], _ =>
              simp [eqCells] at hq; subst hq
              simp only [Bool.and_true, Option.some.injEq] at he; subst he
              unfold Op.equalIn
              rw [run_ok (run_underlying hu w)]
              simp only [vOf, cond_false, List.headD_cons]
              show Result.ok _ _ = _
              congr 1
              rw [Bool.eq_iff_iff]
              show (sa.data == sb.data) = true ↔ _
              simp only [decide_eq_true_eq, beq_iff_eq]
              exact ⟨fun e => by rw [ByteArray.ext e], fun e => Array.ext' (bytesOf_inj e)⟩
          · cases he
      | struct fs =>
        refine ⟨true, by simp [aggT, hu], ?_⟩
        simp only at h
        cases hst : P.stoodInHeld t with
        | true => rw [hst] at h; cases h
        | false =>
          rw [hst] at h
          simp only [cond_false] at h
          have key : ∀ (fl : List Field) (off : Nat) (ks : List K) (b : Bool), flatF (flat P d) (sizeT P) off fl = some ks → eqCells ks (X.drop off) (Y.drop off) = some b → off ≤ X.length → off ≤ Y.length →
              ∃ bs, b = bs.all id ∧ LR (fun (f : Field) b => ((fun (f : Field) (__s : Option Bool × Unit) => if f.name ≠ "_" then do
                      let __do_lift ← part f.type vx.toArray f.offset
                      let __do_lift_1 ← part f.type vy.toArray f.offset
                      let __do_lift ← Op.equalIn m f.type __do_lift __do_lift_1
                      if (!__do_lift) = true then pure (ForInStep.done (some false, ()))
                        else pure (ForInStep.yield (none, ()))
                    else pure (ForInStep.yield (none, ())) : Field → Option Bool × Unit → Sem (ForInStep (Option Bool × Unit))) f (none, ())).run P w = .ok (if b = true then .yield (none, ()) else .done (some false, ())) w) fl bs := by
            intro fl
            induction fl with
            | nil =>
              intro off ks b h1 h2 _ _
              simp [flatF] at h1; subst h1
              have hxy := eqCells_len _ _ _ _ h2
              match X.drop off, Y.drop off, hxy, h2 with
              | [], [], _, h2 => simp [eqCells] at h2; subst h2; exact ⟨[], rfl, trivial⟩
            | cons f fl ih =>
              intro off ks b h1 h2 hlx hly
              simp only [flatF] at h1
              cases hn : (Nat.beq f.offset off && !(f.name == "_")) with
              | false => rw [hn] at h1; cases h1
              | true =>
                rw [hn] at h1
                simp only [cond_true] at h1
                simp only [Bool.and_eq_true, Bool.not_eq_true', beq_eq_false_iff_ne] at hn
                obtain ⟨ho, hname⟩ := hn
                have ho := Nat.eq_of_beq_eq_true ho
                split at h1
                · rename_i k1 n1 hk1 hn1
                  cases hnn : Nat.beq n1 k1.length with
                  | false => rw [hnn] at h1; cases h1
                  | true =>
                    rw [hnn] at h1
                    have hnn := Nat.eq_of_beq_eq_true hnn
                    subst hnn
                    simp only [cond_true] at h1
                    split at h1
                    · rename_i l hl
                      simp only [Option.some.injEq] at h1; subst h1
                      obtain ⟨b1, b2, q1, q2, rfl, q4, q5⟩ := eqCells_append k1 l _ _ _ h2
                      simp only [List.drop_drop, List.length_drop] at q2 q4 q5
                      obtain ⟨bs, rfl, hbs⟩ := ih (off + k1.length) l b2 hl q2 (by omega) (by omega)
                      refine ⟨b1 :: bs, by simp, ?_, hbs⟩
                      have eX := (hX.drop off).take k1.length
                      have eY := (hY.drop off).take k1.length
                      obtain ⟨g, hg, hrun⟩ := eq_run d f.type k1 hk1 m (by omega) _ _ _ _ b1 eX eY q1
                      have lx := hX.length
                      have ly := hY.length
                      show ((if f.name ≠ "_" then _ else _ : Sem (ForInStep (Option Bool × Unit)))).run P w = _
                      rw [if_pos hname]
                      subst ho
                      rw [run_ok (run_part hn1 hg vx.toArray f.offset (flat_size_pos d _ _ _ hk1 hg) (by simp; omega))]
                      rw [run_ok (run_part hn1 hg vy.toArray f.offset (flat_size_pos d _ _ _ hk1 hg) (by simp; omega))]
                      rw [run_ok hrun]
                      cases b1 <;> rfl
                    · cases h1
                · cases h1
          obtain ⟨bs, rfl, hbs⟩ := key fs.toList 0 ks b h (by simpa using he) (by simp) (by simp)
          unfold Op.equalIn
          rw [run_ok (run_underlying hu w)]
          simp only [vOf, cond_true]
          show ((program >>= fun p => _ : Sem Bool)).run P w = _
          have hprog : (program).run P w = .ok P w := rfl
          rw [run_ok hprog]
          simp only [hst, Bool.false_eq_true, if_false]
          rw [← Array.forIn_toList, run_ok (run_all fs.toList bs hbs)]
          cases hb : bs.all id <;> simp <;> rfl
      | array n e =>
        refine ⟨true, by simp [aggT, hu], ?_⟩
        simp only at h
        split at h
        · rename_i k1 n1 hk1 hn1
          cases hnn : Nat.beq n1 k1.length with
          | false => rw [hnn] at h; cases h
          | true =>
            rw [hnn] at h
            have hnn := Nat.eq_of_beq_eq_true hnn
            subst hnn
            simp only [cond_true, Option.some.injEq] at h
            subst h
            have key : ∀ (q i : Nat) (b : Bool), eqCells (List.replicate q k1).flatten (X.drop (i * k1.length)) (Y.drop (i * k1.length)) = some b → i * k1.length ≤ X.length → i * k1.length ≤ Y.length →
                ∃ bs, b = bs.all id ∧ LR (fun (i : Nat) b => ((fun (i : Nat) (__s : Option Bool × Unit) => do
                  let __do_lift ← part e vx.toArray (i * k1.length)
                  let __do_lift_1 ← part e vy.toArray (i * k1.length)
                  let __do_lift ← Op.equalIn m e __do_lift __do_lift_1
                  if (!__do_lift) = true then pure (ForInStep.done (some false, ()))
                    else pure (ForInStep.yield (none, ())) : Nat → Option Bool × Unit → Sem (ForInStep (Option Bool × Unit))) i (none, ())).run P w = .ok (if b = true then .yield (none, ()) else .done (some false, ())) w) (List.range' i q 1) bs := by
              intro q
              induction q with
              | zero =>
                intro i b h2 _ _
                have hxy := eqCells_len _ _ _ _ h2
                simp only [List.replicate_zero, List.flatten_nil, List.length_nil, List.length_eq_zero_iff] at hxy
                rw [hxy.1, hxy.2] at h2
                simp [eqCells] at h2; subst h2
                exact ⟨[], rfl, trivial⟩
              | succ q ih =>
                intro i b h2 hlx hly
                rw [List.replicate_succ, List.flatten_cons] at h2
                obtain ⟨b1, b2, q1, q2, rfl, q4, q5⟩ := eqCells_append k1 _ _ _ _ h2
                simp only [List.drop_drop, List.length_drop] at q2 q4 q5
                have e1 : i * k1.length + k1.length = (i + 1) * k1.length := by rw [Nat.add_mul]; omega
                rw [e1] at q2
                obtain ⟨bs, rfl, hbs⟩ := ih (i + 1) b2 q2 (by omega) (by omega)
                refine ⟨b1 :: bs, by simp, ?_⟩
                rw [List.range'_succ]
                refine ⟨?_, hbs⟩
                have eX := (hX.drop (i * k1.length)).take k1.length
                have eY := (hY.drop (i * k1.length)).take k1.length
                obtain ⟨g, hg, hrun⟩ := eq_run d e k1 hk1 m (by omega) _ _ _ _ b1 eX eY q1
                have lx := hX.length
                have ly := hY.length
                show ((part e vx.toArray (i * k1.length) >>= fun _ => _ : Sem _)).run P w = _
                rw [run_ok (run_part hn1 hg vx.toArray _ (flat_size_pos d _ _ _ hk1 hg) (by simp; omega))]
                rw [run_ok (run_part hn1 hg vy.toArray _ (flat_size_pos d _ _ _ hk1 hg) (by simp; omega))]
                rw [run_ok hrun]
                cases b1 <;> rfl
            obtain ⟨bs, rfl, hbs⟩ := key n 0 b (by simpa using he) (by simp) (by simp)
            unfold Op.equalIn
            rw [run_ok (run_underlying hu w)]
            simp only [vOf, cond_true]
            show ((Go.sizeOf e >>= fun _ => _ : Sem Bool)).run P w = _
            rw [run_ok (run_sizeOf hn1 w)]
            rw [Std.Legacy.Range.forIn_eq_forIn_range', run_ok (run_all _ bs (by simpa [Std.Legacy.Range.size] using hbs))]
            cases hb : bs.all id <;> simp <;> rfl
        · cases h
      | _ => simp at h
end Go.Eng
