/- Layer 15: Bracket: the states are counted, and Horner's rule. -/
import Derived.Test.YtalmkaiiffodnaaGreatDoorHb
import Derived.Test.YtalmkaiiffodnaaGreatDoorHr
set_option linter.unusedSimpArgs false
set_option linter.unusedVariables false
namespace Go.Proofs.YtalmkaiiffodnaaGreatDoor
open Go Go.RowKit
set_option maxRecDepth 100000
set_option maxHeartbeats 8000000
abbrev brH (s m : List Int) (L : Int) (E : List (Int × AV)) (T : List (Nat × List Int)) : Hp := (2, .imap 49 E) :: (1, .cells 29 (.lst [.bool false, .nils])) :: (0, .cells 24 (.lst [roI s, roI m, I L])) :: rowsG T
theorem brH_get {s m : List Int} {L : Int} {E : List (Int × AV)} {T : List (Nat × List Int)} {i : Nat} (h : 4 ≤ i) : hget (brH s m L E T) i = hget (rowsH T) i := by
  simp only [hget]
  rw [if_neg (by omega), if_neg (by omega), if_neg (by omega), rowsG_get T (by omega)]
theorem brH_id {n : Nat} {E : List (Int × AV)} {T : List (Nat × List Int)} {f : Int → Option (List Int)} (hT : Tab n E T f) {id : Nat} (h : (hget (rowsH T) id).isSome = true) : 4 ≤ id := by
  obtain ⟨o, ho⟩ := Option.isSome_iff_exists.1 h
  obtain ⟨x, hx, _⟩ := rows_mem ho
  exact hT.low _ hx
theorem brH_sO {s m : List Int} {L : Int} {n : Nat} {E : List (Int × AV)} {T : List (Nat × List Int)} {f : Int → Option (List Int)} (hT : Tab n E T f) {t : Nat} : sO (brH s m L E T) (.imap t E) = true := by
  refine List.all_eq_true.2 fun q hq => ?_
  obtain ⟨id, e, h⟩ := hT.mem q hq
  rw [e]
  show (hget (brH s m L E T) id).isSome = true
  rw [brH_get (brH_id hT h)]; exact h
theorem brH_sub {s m : List Int} {L : Int} {n : Nat} {E : List (Int × AV)} {T : List (Nat × List Int)} {f : Int → Option (List Int)} (hT : Tab n E T f) {H : Hp} (h2 : hget H 2 = some (.imap 49 E)) (h1 : hget H 1 = some (.cells 29 (.lst [.bool false, .nils])))
    (h0 : hget H 0 = some (.cells 24 (.lst [roI s, roI m, I L]))) (h3 : hget H 3 = some .gone) (hr : ∀ q ∈ T, hget H q.1 = some (.cells 3 (.ints q.2))) : subH H (brH s m L E T) (brH s m L E T) :=
  ⟨h2, brH_sO hT, h1, rfl, h0, rfl, rowsG_subH h3 T hr⟩
theorem brH_self {s m : List Int} {L : Int} {n : Nat} {E : List (Int × AV)} {T : List (Nat × List Int)} {f : Int → Option (List Int)} (hT : Tab n E T f) : subH (brH s m L E T) (brH s m L E T) (brH s m L E T) :=
  brH_sub hT rfl rfl rfl (by simp only [hget]; exact rowsG_3 hT.low) fun q hq => by rw [brH_get (hT.low q hq)]; exact nodup_ok hT.nd q hq
abbrev brX (s m : List Int) (L : Int) (E : List (Int × AV)) (T : List (Nat × List Int)) (B : Nat) (x : AV) : Hp := (B + 1 + 1, .cells 29 (.lst [.bool false, x])) :: (B + 1, .cells 29 (.lst [.bool false, .ro 2 2 (.lst (tmC [(-2, -1), (2, -1)]))])) :: brH s m L E T
theorem brX_get {s m : List Int} {L : Int} {E : List (Int × AV)} {T : List (Nat × List Int)} {B : Nat} {x : AV} {i : Nat} (h : i < B) : hget (brX s m L E T B x) i = hget (brH s m L E T) i := by
  conv => lhs; simp only [hget]
  rw [if_neg (by omega), if_neg (by omega)]; rfl
theorem brX_sO {s m : List Int} {L : Int} {n : Nat} {E : List (Int × AV)} {T : List (Nat × List Int)} {f : Int → Option (List Int)} (hT : Tab n E T f) {B : Nat} (hlt : ∀ q ∈ T, q.1 < B) {x : AV} : (E.all fun q => s3 (brX s m L E T B x) q.2) = true := by
  refine List.all_eq_true.2 fun q hq => ?_
  obtain ⟨id, e, h⟩ := hT.mem q hq
  rw [e]
  show (hget (brX s m L E T B x) id).isSome = true
  have hi := brH_id hT h
  obtain ⟨o, ho⟩ := Option.isSome_iff_exists.1 h
  obtain ⟨y, hy, _⟩ := rows_mem ho
  have := hlt _ hy
  rw [brX_get this, brH_get hi]; exact h
theorem brX_sub {s m : List Int} {L : Int} {n : Nat} {E : List (Int × AV)} {T : List (Nat × List Int)} {f : Int → Option (List Int)} (hT : Tab n E T f) {B : Nat} (hB : 4 ≤ B) (hlt : ∀ q ∈ T, q.1 < B) {x : AV} (hx : ∀ H, s3 H x = true) {H : Hp}
    (h5 : hget H (B + 1 + 1) = some (.cells 29 (.lst [.bool false, x]))) (h4 : hget H (B + 1) = some (.cells 29 (.lst [.bool false, .ro 2 2 (.lst (tmC [(-2, -1), (2, -1)]))])))
    (h2 : hget H 2 = some (.imap 49 E)) (h1 : hget H 1 = some (.cells 29 (.lst [.bool false, .nils])))
    (h0 : hget H 0 = some (.cells 24 (.lst [roI s, roI m, I L]))) (h3 : hget H 3 = some .gone) (hr : ∀ q ∈ T, hget H q.1 = some (.cells 3 (.ints q.2))) : subH H (brX s m L E T B x) (brX s m L E T B x) := by
  refine ⟨h5, ?_, h4, rfl, h2, ?_, h1, rfl, h0, rfl, rowsG_subH h3 T hr⟩
  · show ([.bool false, x] : List AV).all _ = true
    simp only [List.all_cons, hx, List.all_nil, Bool.and_true]; rfl
  · exact brX_sO hT hlt
theorem brX_self {s m : List Int} {L : Int} {n : Nat} {E : List (Int × AV)} {T : List (Nat × List Int)} {f : Int → Option (List Int)} (hT : Tab n E T f) {B : Nat} (hB : 4 ≤ B) (hlt : ∀ q ∈ T, q.1 < B) {x : AV} (hx : ∀ H, s3 H x = true) :
    subH (brX s m L E T B x) (brX s m L E T B x) (brX s m L E T B x) := by
  have g : ∀ i, i < B → hget (brX s m L E T B x) i = hget (brH s m L E T) i := fun i hi => brX_get hi
  refine brX_sub hT hB hlt hx (by simp [hget]) (by simp [hget]) (by rw [g 2 (by omega)]; rfl) (by rw [g 1 (by omega)]; rfl) (by rw [g 0 (by omega)]; rfl) ?_ fun q hq => ?_
  · rw [g 3 (by omega)]; simp only [hget]; exact rowsG_3 hT.low
  · rw [g _ (hlt q hq), brH_get (hT.low q hq)]; exact nodup_ok hT.nd q hq
theorem le_zeroP' : LeA (.agg [.bool false, .nils]) (plA false []) := LeA.aggL (.cons (LeA.refl _) (.cons (LeA.nils (by omega) rfl) .nil))
theorem max_cast (a b : Nat) : (if (a : Int) < b then (b : Int) else (a : Int)) = ((if a < b then b else a : Nat) : Int) := by split <;> split <;> omega
theorem fn_Bracket (s m : List Int) (L : Nat) (hv : validB s m L = true) (h0 : ¬ (s.length = 0 ∧ L = 0)) (hs : s.length ≤ 9) (hL : L ≤ 20) : Fn Tryz.prog 7 [dgA s m L] (.tup [plA false (brP m s.length L), I 0]) := by
  have hV := fn_Valid s m L
  rw [hv] at hV
  have v1 := valid1 hv
  have hp := pmOk hv
  have hcN := fun b => cN_le hp (L := L) b
  have b2 : decide ((14 : Int) < s.length) = false := by simp; omega
  have b3 : decide ((20 : Int) < L) = false := by simp; omega
  obtain ⟨n, hn⟩ : ∃ n, s.length = n := ⟨_, rfl⟩
  have hp2 : (2 : Nat) ^ n ≤ 2 ^ 9 := Nat.pow_le_pow_right (by omega) (by omega)
  have hpp : 0 < 2 ^ n := Nat.pow_pos (by omega)
  obtain ⟨K, hK⟩ : ∃ K : Nat, K = 2 ^ n := ⟨_, rfl⟩
  have hKi : (2 : Int) ^ n = K := by rw [hK]; simp
  rw [← hK] at hp2 hpp
  have hMg := fun b : Nat => fn_merge s m L 25 [.rp (.lst [I b]) 0] (chB b) (by omega) v1.prd.ok rfl
  subst hn
  have hmo := mostB_le hcN K
  obtain ⟨x0, hx0⟩ : ∃ x, ((s.length : Int) == 0) = x := ⟨_, rfl⟩
  have b1 : x0 = true → ((L : Int) == 0) = false := fun h => by
    rw [← hx0, beq_iff_eq] at h
    rw [beq_eq_false_iff_ne]; omega
  refine Fn.introL [.cell 2 29, .tmp 3] Tryz.func7 rfl rfl (by decide) (by simp [Tryz.ntmps7]) ?_; rw [Tryz.ntmps7]
  repeat' (first | omega | ((first | refine awC_sound _ _ _ _ ?_ | skip); simp only [go_sem, sevalprocAttr, ↓reduceIte, reduceCtorEq]) | (refine gspDI ?_ ?_ <;> (intro _hh; (try simp only [_hh]); revert _hh)) | refine gspLI ?_ ?_ | refine condLI ?_ ?_ | refine gspI ?_ ?_ | refine And.intro ?_ ?_ | with_reducible intro _hh | trivial | (simp only [cl1, cl2, cl3, List.length_cons, List.length_nil, List.length_append]; omega))
  refine ⟨CallB.fn rfl hV ?_⟩
  cases x0
  case' true =>
    have b1' := b1 rfl
    repeat' (first | omega | ((first | refine awC_sound _ _ _ _ ?_ | skip); simp only [go_sem, sevalprocAttr, ↓reduceIte, reduceCtorEq, hx0, b1', b2, b3, hKi, Int.one_mul, Int.toNat_natCast]) | (refine gspDI ?_ ?_ <;> (intro _hh; (try simp only [_hh]); revert _hh)) | refine gspLI ?_ ?_ | refine condLI ?_ ?_ | refine gspI ?_ ?_ | refine And.intro ?_ ?_ | with_reducible intro _hh | trivial | (simp only [cl1, cl2, cl3, List.length_cons, List.length_nil, List.length_append]; omega))
  case' false =>
    repeat' (first | omega | ((first | refine awC_sound _ _ _ _ ?_ | skip); simp only [go_sem, sevalprocAttr, ↓reduceIte, reduceCtorEq, hx0, b2, b3, hKi, Int.one_mul, Int.toNat_natCast]) | (refine gspDI ?_ ?_ <;> (intro _hh; (try simp only [_hh]); revert _hh)) | refine gspLI ?_ ?_ | refine condLI ?_ ?_ | refine gspI ?_ ?_ | refine And.intro ?_ ?_ | with_reducible intro _hh | trivial | (simp only [cl1, cl2, cl3, List.length_cons, List.length_nil, List.length_append]; omega))
  all_goals
    refine LoopA.intro (fun n fr H => ∃ (k : Nat) (E : List (Int × AV)) (T : List (Nat × List Int)), k ≤ K ∧ n = K - k ∧ Tab s.length E T (rowB m s.length L k) ∧ fr = [(43, I k), (42, I K), (6, I (mostB m s.length L k)), (5, .mp 2), (4, I s.length), (2, .ptr 1 0), (1, .ptr 0 0)] ∧ H = brH s m L E T) ?_ ?_
    · refine ⟨_, _, _, (Wk.gone 3 (by simp only [go_sem, sevalprocAttr, ↓reduceIte, reduceCtorEq, rowsG_nil])).trans ?_, 0, [], [], by omega, rfl, Tab.nil _, rfl, rfl⟩
      refine Wk.sub ?_ ?_ <;> (simp only [go_sem, sevalprocAttr, ↓reduceIte, reduceCtorEq, rowsG_nil, mostB])
      all_goals simp_all
    rintro n fr H ⟨k, E, T, hk, rfl, hT, rfl, rfl⟩
    have hB3 := rowsG_new T
    obtain ⟨B, hB⟩ : ∃ B, hnew (rowsG T) = B := ⟨_, rfl⟩
    rw [hB] at hB3
    have q1 : (1 ≤ B) = True := eq_true (by omega)
    have q2 : (2 ≤ B) = True := eq_true (by omega)
    have q3 : (3 ≤ B) = True := eq_true (by omega)
    have n0 : (B = 0) = False := eq_false (by omega)
    have n1 : (B = 1) = False := eq_false (by omega)
    have n2 : (B = 2) = False := eq_false (by omega)
    have m1 : (B + 1 ≤ B) = False := eq_false (by omega)
    have hlt : ∀ q ∈ T, q.1 < B := fun q hq => by
      have h1 := hT.low q hq
      have h2 := nodup_ok hT.nd q hq
      rw [← hB]; exact rowsG_lt T q.1 (.cells 3 (.ints q.2)) (by rw [rowsG_get T (by omega)]; exact h2)
    have hfr : ∀ x, frzPH [(B, x)] (rowsG T) = True := fun x => rowsG_frzPH _ T
    have hfz : ∀ x, frzH [(B, x)] (rowsG T) = rowsG T := fun x => rowsG_frzH _ (by simp only [hget]; rw [if_neg (by omega)]) T fun q hq => by
      have := hlt q hq
      simp only [hget]; rw [if_neg (by omega)]
    by_cases hkl : k < K
    · have hM := hMg k (fun c hc => fn_chB k c (by omega) (by omega))
      have hrl := hcN k
      repeat' (first | omega | ((first | refine awC_sound _ _ _ _ ?_ | skip); simp only [go_sem, sevalprocAttr, ↓reduceIte, reduceCtorEq, hB, q1, q2, q3, n0, n1, n2]) | (refine gspDI ?_ ?_ <;> (intro _hh; (try simp only [_hh]); revert _hh)) | refine gspLI ?_ ?_ | refine condLI ?_ ?_ | refine gspI ?_ ?_ | refine And.intro ?_ ?_ | with_reducible intro _hh | trivial | (simp only [cl1, cl2, cl3, List.length_cons, List.length_nil, List.length_append]; omega))
      refine ⟨CallB.frz [B] rfl (by simp only [go_sem, sevalprocAttr, ↓reduceIte, reduceCtorEq, hB, q1, q2, q3, n0, n1, n2, hfr, hfz]) (by simp only [go_sem, sevalprocAttr, ↓reduceIte, reduceCtorEq, hB, q1, q2, q3, n0, n1, n2, hfr, hfz]) (by simp only [go_sem, sevalprocAttr, ↓reduceIte, reduceCtorEq, hB, q1, q2, q3, n0, n1, n2, hfr, hfz]) (by simp only [go_sem, sevalprocAttr, ↓reduceIte, reduceCtorEq, hB, q1, q2, q3, n0, n1, n2, hfr, hfz]) rfl rfl rfl (CallB.fn rfl hM ?_)⟩
      have hck0 : roots (mgB m (chB k) s.length) + L = cN m s.length L k := rfl
      have hck : (roots (mgB m (chB k) s.length) : Int) + L = (cN m s.length L k : Int) := by omega
      have hrl2 : (roots (mgB m (chB k) s.length) : Int) ≤ 1000 := by omega
      have h512 : K ≤ 512 := hp2
      have hcl := cntB_le k s.length
      have hTg : ∀ q ∈ T, hget (rowsG T) q.1 = some (.cells 3 (.ints q.2)) := fun q hq => by
        have := hT.low q hq
        rw [rowsG_get T (by omega)]; exact nodup_ok hT.nd q hq
      obtain ⟨E1, hE1⟩ : ∃ E1, (if (rowB m s.length L k (cN m s.length L k : Int)).isSome then E else lput E (cN m s.length L k : Int) (.sl 1 (B + 1) 0 (s.length + 1))) = E1 := ⟨_, rfl⟩
      obtain ⟨T1, hT1e⟩ : ∃ T1, (if (rowB m s.length L k (cN m s.length L k : Int)).isSome then T else (B + 1, List.replicate (s.length + 1) 0) :: T) = T1 := ⟨_, rfl⟩
      obtain ⟨r1, hr1e⟩ : ∃ r1, (rowB m s.length L k (cN m s.length L k : Int)).getD (List.replicate (s.length + 1) 0) = r1 := ⟨_, rfl⟩
      have hrb : 0 ≤ r1.getD (cntB k s.length) 0 ∧ r1.getD (cntB k s.length) 0 ≤ 1000 := by
        cases hf : rowB m s.length L k (cN m s.length L k : Int) with
        | none => rw [hf] at hr1e; subst hr1e; simp [List.getD_eq_getElem?_getD, List.getElem?_replicate]; split <;> simp
        | some r => rw [hf] at hr1e; subst hr1e; have := rowB_bound hf hcl; simp only [Option.getD_some]; omega
      obtain ⟨f1, hf1⟩ : ∃ f1 : Int → Option (List Int), (fun x => if x = (cN m s.length L k : Int) then some r1 else rowB m s.length L k x) = f1 := ⟨_, rfl⟩
      have key : ∃ id1, Tab s.length E1 T1 f1 ∧ lfind E1 (cN m s.length L k : Int) = some (.sl 1 id1 0 (s.length + 1)) ∧ hget (rowsH T1) id1 = some (.cells 3 (.ints r1)) ∧ r1.length = s.length + 1 := by
        cases hf : rowB m s.length L k (cN m s.length L k : Int) with
        | none =>
          rw [hf] at hE1 hT1e hr1e
          simp only [Option.isSome_none, Bool.false_eq_true, if_false, Option.getD_none] at hE1 hT1e hr1e
          subst hE1 hT1e hr1e hf1
          exact ⟨B + 1, hT.new hf (fun q hq => by have := hlt q hq; omega) (by omega) (by simp), lfind_put_same _ _, by rw [rowsH_cons]; simp [hget], by simp⟩
        | some r =>
          rw [hf] at hE1 hT1e hr1e
          simp only [Option.isSome_some, if_true, Option.getD_some] at hE1 hT1e hr1e
          obtain ⟨id, hl, hg, hr⟩ := hT.yes _ _ hf
          subst hE1 hT1e hr1e hf1
          have : (fun x => if x = (cN m s.length L k : Int) then some r else rowB m s.length L k x) = rowB m s.length L k := by
            funext x
            by_cases e : x = (cN m s.length L k : Int)
            · rw [if_pos e, e, hf]
            · rw [if_neg e]
          rw [this]
          exact ⟨id, hT, hl, hg, hr⟩
      obtain ⟨id1, hT1, hl1, hg1, hr1⟩ := key
      have hi4 : 4 ≤ id1 := brH_id hT1 (by rw [hg1]; rfl)
      have hgG : hget (rowsG T1) id1 = some (.cells 3 (.ints r1)) := by rw [rowsG_get T1 (by omega)]; exact hg1
      have i0 : (0 = id1) = False := eq_false (by omega)
      have i1 : (1 = id1) = False := eq_false (by omega)
      have i2 : (2 = id1) = False := eq_false (by omega)
      have hset1 : ∀ r, hset (rowsG T1) id1 (.cells 3 (.ints r)) = rowsG (tset T1 id1 r) := fun r => rowsG_hset T1 id1 r (by omega)
      have hnext : (fun x => if x = (cN m s.length L k : Int) then some (r1.set (cntB k s.length) (r1.getD (cntB k s.length) 0 + 1)) else f1 x) = rowB m s.length L (k + 1) := by
        funext x
        simp only [rowB]
        by_cases e : x = (cN m s.length L k : Int)
        · rw [if_pos e, if_pos e, e, hr1e]
        · rw [if_neg e, if_neg e, ← hf1]; simp only; rw [if_neg e]
      have hT2 := hT1.upd (r' := r1.set (cntB k s.length) (r1.getD (cntB k s.length) 0 + 1)) (by rw [← hf1]; exact if_pos rfl) hl1 hg1 (by simpa using hr1)
      rw [hnext] at hT2
      have hTg1 : ∀ q ∈ T1, hget (rowsG T1) q.1 = some (.cells 3 (.ints q.2)) := fun q hq => by
        have := hT1.low q hq
        rw [rowsG_get T1 (by omega)]; exact nodup_ok hT1.nd q hq
      have hn1 : ((s.length : Int) + 1).toNat = s.length + 1 := by omega
      have mc := max_cast (mostB m s.length L k) (cN m s.length L k)
      have hc0 : (0 : Int) = (cntB k 0 : Int) := rfl
      cases hf : rowB m s.length L k (cN m s.length L k : Int)
      case' none =>
        have hl := hT.no _ hf
        rw [hf] at hE1 hT1e
        simp only [Option.isSome_none, Bool.false_eq_true, if_false] at hE1 hT1e
        repeat' (first | omega | ((first | refine awC_sound _ _ _ _ ?_ | skip); simp only [go_sem, sevalprocAttr, ↓reduceIte, reduceCtorEq, hB, q1, q2, q3, n0, n1, n2, m1, hck, hl, hfz]) | (refine gspDI ?_ ?_ <;> (intro _hh; (try simp only [_hh]); revert _hh)) | refine gspLI ?_ ?_ | refine condLI ?_ ?_ | refine gspI ?_ ?_ | refine And.intro ?_ ?_ | with_reducible intro _hh | trivial | (simp only [cl1, cl2, cl3, List.length_cons, List.length_nil, List.length_append]; omega))
        rw [hn1, hE1]
        refine LoopA.intro (fun n fr H => ∃ c : Nat, c ≤ s.length ∧ n = s.length - c ∧ fr = [(66, I c), (65, I s.length), (10, I (cntB k c)), (9, I (cN m s.length L k)), (7, .rp (.lst [I k]) 0), (43, I k), (42, I K), (6, I (mostB m s.length L k)), (5, .mp 2), (4, I s.length), (2, .ptr 1 0), (1, .ptr 0 0)] ∧ H = brH s m L E1 T1) ?_ ?_
        · refine ⟨_, _, _, Wk.sub ?_ (brH_sub hT1 ?_ ?_ ?_ ?_ ?_), 0, by omega, rfl, rfl, rfl⟩
          · simp only [go_sem, sevalprocAttr, ↓reduceIte, reduceCtorEq, hc0]
          · simp only [go_sem, sevalprocAttr, ↓reduceIte, reduceCtorEq, n0, n1, n2]
          · simp only [go_sem, sevalprocAttr, ↓reduceIte, reduceCtorEq, n0, n1, n2]
          · simp only [go_sem, sevalprocAttr, ↓reduceIte, reduceCtorEq, n0, n1, n2]
          · simp only [hget]; rw [if_neg (by omega), if_neg (by omega), if_neg (by omega), if_neg (by omega), if_neg (by omega)]; exact rowsG_3 hT.low
          · intro q hq
            rw [← hT1e] at hq
            rcases List.mem_cons.1 hq with rfl | hq
            · simp [hget]
            · have a1 := hlt q hq
              have a2 := hT.low q hq
              simp only [hget]; rw [if_neg (by omega), if_neg (by omega), if_neg (by omega), if_neg (by omega), if_neg (by omega)]; exact hTg q hq
      case' some r =>
        obtain ⟨id, hl, hg, hr⟩ := hT.yes _ _ hf
        rw [hf] at hE1 hT1e
        simp only [Option.isSome_some, if_true] at hE1 hT1e
        repeat' (first | omega | ((first | refine awC_sound _ _ _ _ ?_ | skip); simp only [go_sem, sevalprocAttr, ↓reduceIte, reduceCtorEq, hB, q1, q2, q3, n0, n1, n2, m1, hck, hl, hfz]) | (refine gspDI ?_ ?_ <;> (intro _hh; (try simp only [_hh]); revert _hh)) | refine gspLI ?_ ?_ | refine condLI ?_ ?_ | refine gspI ?_ ?_ | refine And.intro ?_ ?_ | with_reducible intro _hh | trivial | (simp only [cl1, cl2, cl3, List.length_cons, List.length_nil, List.length_append]; omega))
        rw [hE1]
        refine LoopA.intro (fun n fr H => ∃ c : Nat, c ≤ s.length ∧ n = s.length - c ∧ fr = [(66, I c), (65, I s.length), (10, I (cntB k c)), (9, I (cN m s.length L k)), (7, .rp (.lst [I k]) 0), (43, I k), (42, I K), (6, I (mostB m s.length L k)), (5, .mp 2), (4, I s.length), (2, .ptr 1 0), (1, .ptr 0 0)] ∧ H = brH s m L E1 T1) ?_ ?_
        · refine ⟨_, _, _, Wk.sub ?_ (brH_sub hT1 ?_ ?_ ?_ ?_ ?_), 0, by omega, rfl, rfl, rfl⟩
          · simp only [go_sem, sevalprocAttr, ↓reduceIte, reduceCtorEq, hc0]
          · simp only [go_sem, sevalprocAttr, ↓reduceIte, reduceCtorEq, n0, n1, n2]
          · simp only [go_sem, sevalprocAttr, ↓reduceIte, reduceCtorEq, n0, n1, n2]
          · simp only [go_sem, sevalprocAttr, ↓reduceIte, reduceCtorEq, n0, n1, n2]
          · simp only [hget]; rw [if_neg (by omega), if_neg (by omega), if_neg (by omega), if_neg (by omega)]; exact rowsG_3 hT.low
          · intro q hq
            rw [← hT1e] at hq
            have a1 := hlt q hq
            have a2 := hT.low q hq
            simp only [hget]; rw [if_neg (by omega), if_neg (by omega), if_neg (by omega), if_neg (by omega)]; exact hTg q hq
      all_goals
        rintro n fr H ⟨c, hc, rfl, rfl, rfl⟩
        have hcl := cntB_le k c
        have e0 : (k : Int) / 2 ^ c = ((k / 2 ^ c : Nat) : Int) := by simp
        have hdv : k / 2 ^ c ≤ k := Nat.div_le_self _ _
        have e1 := land1 (k / 2 ^ c) (by omega)
        by_cases hcs : c < s.length
        · have e2 : (cntB k c : Int) + ((k / 2 ^ c % 2 : Nat) : Int) = (cntB k (c + 1) : Int) := by simp only [cntB]; omega
          repeat' (first | omega | ((first | refine awC_sound _ _ _ _ ?_ | skip); simp only [go_sem, sevalprocAttr, ↓reduceIte, reduceCtorEq, e0, e1, e2, Int.toNat_natCast]) | (refine gspDI ?_ ?_ <;> (intro _hh; (try simp only [_hh]); revert _hh)) | refine gspLI ?_ ?_ | refine condLI ?_ ?_ | refine gspI ?_ ?_ | refine And.intro ?_ ?_ | with_reducible intro _hh | trivial | (simp only [cl1, cl2, cl3, List.length_cons, List.length_nil, List.length_append]; omega))
          refine ⟨_, _, _, ?_, ?_, ⟨c + 1, by omega, rfl, rfl, rfl⟩⟩
          · omega
          · refine Wk.sub ?_ (brH_self hT1)
            simp only [go_sem, sevalprocAttr, ↓reduceIte, reduceCtorEq]
        · obtain rfl : c = s.length := by omega
          repeat' (first | omega | ((first | refine awC_sound _ _ _ _ ?_ | skip); simp only [go_sem, sevalprocAttr, ↓reduceIte, reduceCtorEq, Int.toNat_natCast, hl1, hgG, i0, i1, i2, hset1, hr1, mc]) | (refine gspDI ?_ ?_ <;> (intro _hh; (try simp only [_hh]); revert _hh)) | refine gspLI ?_ ?_ | refine condLI ?_ ?_ | refine gspI ?_ ?_ | refine And.intro ?_ ?_ | with_reducible intro _hh | trivial | (simp only [cl1, cl2, cl3, List.length_cons, List.length_nil, List.length_append]; omega))
          refine ⟨_, _, _, ?_, ?_, ⟨k + 1, E1, _, by omega, rfl, hT2, rfl, rfl⟩⟩
          · omega
          · refine Wk.sub ?_ (brH_self hT2)
            simp only [go_sem, sevalprocAttr, ↓reduceIte, reduceCtorEq, mostB]
    · obtain rfl : k = K := by omega
      repeat' (first | omega | ((first | refine awC_sound _ _ _ _ ?_ | skip); simp only [go_sem, sevalprocAttr, ↓reduceIte, reduceCtorEq, hB, q1, q2, q3, n0, n1, n2, m1]) | (refine gspDI ?_ ?_ <;> (intro _hh; (try simp only [_hh]); revert _hh)) | refine gspLI ?_ ?_ | refine condLI ?_ ?_ | refine gspI ?_ ?_ | refine And.intro ?_ ?_ | with_reducible intro _hh | trivial | (simp only [cl1, cl2, cl3, List.length_cons, List.length_nil, List.length_append]; omega))
      refine ⟨CallB.frz [B] rfl (by simp only [go_sem, sevalprocAttr, ↓reduceIte, reduceCtorEq, hB, q1, q2, q3, n0, n1, n2, hfr, hfz]) (by simp only [go_sem, sevalprocAttr, ↓reduceIte, reduceCtorEq, hB, q1, q2, q3, n0, n1, n2, hfr, hfz]) (by simp only [go_sem, sevalprocAttr, ↓reduceIte, reduceCtorEq, hB, q1, q2, q3, n0, n1, n2, hfr, hfz]) (by simp only [go_sem, sevalprocAttr, ↓reduceIte, reduceCtorEq, hB, q1, q2, q3, n0, n1, n2, hfr, hfz]) rfl rfl rfl (CallB.fn rfl fn_OfD ?_)⟩
      repeat' (first | omega | ((first | refine awC_sound _ _ _ _ ?_ | skip); simp only [go_sem, sevalprocAttr, ↓reduceIte, reduceCtorEq, hB, q1, q2, q3, n0, n1, n2, m1, hfz]) | (refine gspDI ?_ ?_ <;> (intro _hh; (try simp only [_hh]); revert _hh)) | refine gspLI ?_ ?_ | refine condLI ?_ ?_ | refine gspI ?_ ?_ | refine And.intro ?_ ?_ | with_reducible intro _hh | trivial | (simp only [cl1, cl2, cl3, List.length_cons, List.length_nil, List.length_append]; omega))
      have eB : (B + 1 = B) = False := eq_false (by omega)
      have m2 : (B + 1 + 1 ≤ B) = False := eq_false (by omega)
      have m3 : (B + 1 + 1 + 1 ≤ B + 1 + 1) = False := eq_false (by omega)
      have m4 : (B = B + 1) = False := eq_false (by omega)
      have m5 : (B = B + 2) = False := eq_false (by omega)
      have hd0 : hdrop [] (rowsG T) = rowsG T := rowsG_drop T fun i hi => by cases hi
      have hd1 : hdrop [B + 1 + 1 + 1] (rowsG T) = rowsG T := rowsG_drop T fun i hi => by
        simp only [List.mem_singleton] at hi
        subst hi
        exact ⟨by omega, fun q hq => by have := hlt q hq; omega⟩
      have hGa : ∀ f : (Nat × AObj) → Bool, (∀ i r, f (i, .cells 3 (.ints r)) = true) → f (3, .gone) = true → (rowsG T).all f = true := fun f => rowsG_all T
      have hTg : ∀ q ∈ T, hget (rowsG T) q.1 = some (.cells 3 (.ints q.2)) := fun q hq => by
        have := hT.low q hq
        rw [rowsG_get T (by omega)]; exact nodup_ok hT.nd q hq
      refine LoopA.intro (fun n fr H => ∃ (J : Nat) (P : List (Int × Int)) (x : AV), J ≤ mostB m s.length L k ∧ n = J ∧ PolyB P (brT m s.length L (J + 1)) ∧ (x = .nils ∧ P = [] ∨ x = .ro 2 P.length (.lst (tmC P))) ∧
        fr = [(14, I J), (13, .ptr (B + 1 + 1) 0), (12, .ptr (B + 1) 0), (5, .mp 2), (4, I s.length), (2, .ptr 1 0)] ∧ H = brX s m L E T B x) ?_ ?_
      · refine ⟨_, _, _, Wk.sub ?_ (brX_sub hT hB3 hlt (x := .nils) (fun _ => rfl) ?_ ?_ ?_ ?_ ?_ ?_ ?_), mostB m s.length L k, [], .nils, Nat.le_refl _, rfl, PolyB.nil.congr fun e => ?_, .inl ⟨rfl, rfl⟩, rfl, rfl⟩
        · simp only [go_sem, sevalprocAttr, ↓reduceIte, reduceCtorEq, eB, n0, n1, n2]
        · simp only [go_sem, sevalprocAttr, ↓reduceIte, reduceCtorEq, eB, n0, n1, n2, hB]
        · simp only [go_sem, sevalprocAttr, ↓reduceIte, reduceCtorEq, eB, n0, n1, n2, hB]
        · simp only [go_sem, sevalprocAttr, ↓reduceIte, reduceCtorEq, eB, n0, n1, n2]
        · simp only [go_sem, sevalprocAttr, ↓reduceIte, reduceCtorEq, eB, n0, n1, n2]
        · simp only [go_sem, sevalprocAttr, ↓reduceIte, reduceCtorEq, eB, n0, n1, n2]
        · simp only [hget]; rw [if_neg (by omega), if_neg (by omega), if_neg (by omega), if_neg (by omega), if_neg (by omega), if_neg (by omega)]; exact rowsG_3 hT.low
        · intro q hq
          have a1 := hlt q hq
          have a2 := hT.low q hq
          simp only [hget]; rw [if_neg (by omega), if_neg (by omega), if_neg (by omega), if_neg (by omega), if_neg (by omega), if_neg (by omega)]; exact hTg q hq
        · refine (hrT_top (fun k' hk' => ?_) e).symm
          have := mostB_ge m s.length L k k' (by omega)
          omega
      rintro J fr H ⟨J0, P, x, hJ, rfl, hP, hx, rfl, rfl⟩
      by_cases hJ0 : 1 ≤ J
      · obtain ⟨Q, hQ, hMu⟩ : ∃ Q, PolyB Q (dml (brT m s.length L (J + 1))) ∧ Fn Tryz.prog 27 [.agg [.bool false, x], plA false [(-2, -1), (2, -1)]] (plA false Q) := by
          rcases hx with ⟨rfl, rfl⟩ | rfl
          · refine ⟨[], PolyB.nil.congr fun e => ?_, fn_Mul0n _⟩
            have h1 := hP.cf (e + 2)
            have h2 := hP.cf (e - 2)
            simp only [cfL] at h1 h2
            unfold dml; rw [← h1, ← h2]; rfl
          · exact mul_ok hP (fun e he => brT_sup hp hs hL (by omega) he) (fun e => by have := brT_bnd hp hs hL (j := J + 1) (by omega) e; omega) fun h => brT_dense hp hs hP.asc hP.cf h
        have hmJ : (J : Int) ≤ 1000 := by omega
        have hJc : ((J - 1 : Nat) : Int) = (J : Int) - 1 := by omega
        have hstep : ∀ e, brT m s.length L J e = dml (brT m s.length L (J + 1)) e + hrR (2 ^ s.length) (cN m s.length L) (wB s.length) J e := fun e => hrT_step J e
        rw [← hK] at hstep
        cases hf : rowB m s.length L k (J : Int)
        case' none =>
          have hl := hT.no _ hf
          have hQ' : PolyB Q (brT m s.length L (J - 1 + 1)) := hQ.congr fun e => by
            rw [show J - 1 + 1 = J by omega, hstep, rowB_none hf]; omega
          rcases hx with ⟨rfl, rfl⟩ | rfl
          all_goals
            repeat' (first | omega | ((first | refine awC_sound _ _ _ _ ?_ | skip); simp only [go_sem, sevalprocAttr, ↓reduceIte, reduceCtorEq, eB, n0, n1, n2, m1]) | (refine gspDI ?_ ?_ <;> (intro _hh; (try simp only [_hh]); revert _hh)) | refine gspLI ?_ ?_ | refine condLI ?_ ?_ | refine gspI ?_ ?_ | refine And.intro ?_ ?_ | with_reducible intro _hh | trivial | (simp only [cl1, cl2, cl3, List.length_cons, List.length_nil, List.length_append]; omega))
            refine ⟨CallB.fn rfl hMu ?_⟩
            repeat' (first | omega | ((first | refine awC_sound _ _ _ _ ?_ | skip); simp only [go_sem, sevalprocAttr, ↓reduceIte, reduceCtorEq, eB, n0, n1, n2, m1, hl]) | (refine gspDI ?_ ?_ <;> (intro _hh; (try simp only [_hh]); revert _hh)) | refine gspLI ?_ ?_ | refine condLI ?_ ?_ | refine gspI ?_ ?_ | refine And.intro ?_ ?_ | with_reducible intro _hh | trivial | (simp only [cl1, cl2, cl3, List.length_cons, List.length_nil, List.length_append]; omega))
            refine LoopA.intro (fun n fr H => n = 0 ∧ fr = [(103, I 0), (102, I 0), (14, I J), (13, .ptr (B + 1 + 1) 0), (12, .ptr (B + 1) 0), (5, .mp 2), (4, I s.length), (2, .ptr 1 0)] ∧ H = brX s m L E T B (.ro 2 Q.length (.lst (tmC Q)))) ?_ ?_
            · refine ⟨_, _, _, Wk.sub ?_ (brX_self hT hB3 hlt (fun _ => rfl)), rfl, rfl, rfl⟩
              simp only [go_sem, sevalprocAttr, ↓reduceIte, reduceCtorEq, eB, n0, n1, n2]
            rintro n fr H ⟨rfl, rfl, rfl⟩
            repeat' (first | omega | ((first | refine awC_sound _ _ _ _ ?_ | skip); simp only [go_sem, sevalprocAttr, ↓reduceIte, reduceCtorEq, eB, n0, n1, n2, m1]) | (refine gspDI ?_ ?_ <;> (intro _hh; (try simp only [_hh]); revert _hh)) | refine gspLI ?_ ?_ | refine condLI ?_ ?_ | refine gspI ?_ ?_ | refine And.intro ?_ ?_ | with_reducible intro _hh | trivial | (simp only [cl1, cl2, cl3, List.length_cons, List.length_nil, List.length_append]; omega))
            refine ⟨_, _, _, ?_, ?_, ⟨J - 1, Q, _, by omega, rfl, hQ', .inr rfl, rfl, rfl⟩⟩
            · omega
            · refine Wk.sub ?_ (brX_self hT hB3 hlt (fun _ => rfl))
              simp only [go_sem, sevalprocAttr, ↓reduceIte, reduceCtorEq, eB, n0, n1, n2, hJc]
        case' some r =>
          obtain ⟨id, hl, hg, hr⟩ := hT.yes _ _ hf
          have hi4 : 4 ≤ id := brH_id hT (by rw [hg]; rfl)
          have hgG : hget (rowsG T) id = some (.cells 3 (.ints r)) := by rw [rowsG_get T (by omega)]; exact hg
          have hidB : id < B := by rw [← hB]; exact rowsG_lt T id _ hgG
          have i0 : (0 = id) = False := eq_false (by omega)
          have i1 : (1 = id) = False := eq_false (by omega)
          have i2 : (2 = id) = False := eq_false (by omega)
          have i3 : (B + 1 = id) = False := eq_false (by omega)
          have i4 : (B + 1 + 1 = id) = False := eq_false (by omega)
          rcases hx with ⟨rfl, rfl⟩ | rfl
          all_goals
            repeat' (first | omega | ((first | refine awC_sound _ _ _ _ ?_ | skip); simp only [go_sem, sevalprocAttr, ↓reduceIte, reduceCtorEq, eB, n0, n1, n2, m1]) | (refine gspDI ?_ ?_ <;> (intro _hh; (try simp only [_hh]); revert _hh)) | refine gspLI ?_ ?_ | refine condLI ?_ ?_ | refine gspI ?_ ?_ | refine And.intro ?_ ?_ | with_reducible intro _hh | trivial | (simp only [cl1, cl2, cl3, List.length_cons, List.length_nil, List.length_append]; omega))
            refine ⟨CallB.fn rfl hMu ?_⟩
            repeat' (first | omega | ((first | refine awC_sound _ _ _ _ ?_ | skip); simp only [go_sem, sevalprocAttr, ↓reduceIte, reduceCtorEq, eB, n0, n1, n2, m1, hl]) | (refine gspDI ?_ ?_ <;> (intro _hh; (try simp only [_hh]); revert _hh)) | refine gspLI ?_ ?_ | refine condLI ?_ ?_ | refine gspI ?_ ?_ | refine And.intro ?_ ?_ | with_reducible intro _hh | trivial | (simp only [cl1, cl2, cl3, List.length_cons, List.length_nil, List.length_append]; omega))
            refine LoopA.intro (fun n fr H => ∃ (x : Nat) (R : List (Int × Int)), x ≤ s.length + 1 ∧ n = s.length + 1 - x ∧ PolyB R (fun e => dml (brT m s.length L (J + 1)) e + rowT s.length r x e) ∧
              fr = [(103, I x), (102, I (s.length + 1 : Nat)), (101, .sl 1 id 0 (s.length + 1)), (14, I J), (13, .ptr (B + 1 + 1) 0), (12, .ptr (B + 1) 0), (5, .mp 2), (4, I s.length), (2, .ptr 1 0)] ∧ H = brX s m L E T B (.ro 2 R.length (.lst (tmC R)))) ?_ ?_
            · refine ⟨_, _, _, Wk.sub ?_ (brX_self hT hB3 hlt (fun _ => rfl)), 0, Q, by omega, rfl, hQ.congr fun e => by simp [rowT, sm], rfl, rfl⟩
              simp only [go_sem, sevalprocAttr, ↓reduceIte, reduceCtorEq, eB, n0, n1, n2, hgG, i0, i1, i2, i3, i4]
            rintro n fr H ⟨x, R, hxl, rfl, hR, rfl, rfl⟩
            by_cases hxn : x < s.length + 1
            · have hb := rowB_bound hf (x := x) (by omega)
              have hTm := fn_Term (r.getD x 0) ((s.length : Int) - 2 * x) (by omega) (by omega)
              obtain ⟨R', hR', hA⟩ := add_ok hR (trm_ok (r.getD x 0) ((s.length : Int) - 2 * x)) (fun e he => by
                by_cases h1 : dml (brT m s.length L (J + 1)) e = 0
                · exact rowT_sup hs hxl (e := e) (fun h => he (by rw [h1, h]; rfl))
                · by_cases h2 : brT m s.length L (J + 1) (e + 2) = 0
                  · by_cases h3 : brT m s.length L (J + 1) (e - 2) = 0
                    · exact absurd (by unfold dml; rw [h2, h3]; rfl) h1
                    · have := brT_supp hp h3
                      have h4 := cirS_max hp (fun _ => true)
                      have h5 := cirS_max hp (fun _ => false)
                      omega
                  · have := brT_supp hp h2
                    have h4 := cirS_max hp (fun _ => true)
                    have h5 := cirS_max hp (fun _ => false)
                    omega) (fun e he => by
                by_cases h1 : e = (s.length : Int) - 2 * x
                · omega
                · exact absurd (if_neg h1) he) (fun e => by
                have h1 := brT_bnd hp hs hL (j := J + 1) (by omega) (e + 2)
                have h2 := brT_bnd hp hs hL (j := J + 1) (by omega) (e - 2)
                have h3 := rowT_bnd hf (by omega) hs x hxl e
                unfold dml; omega) (fun e => by split <;> omega)
              have hR2 : PolyB R' (fun e => dml (brT m s.length L (J + 1)) e + rowT s.length r (x + 1) e) := hR'.congr fun e => by
                have : rowT s.length r (x + 1) e = rowT s.length r x e + (if e = (s.length : Int) - 2 * x then r.getD x 0 else 0) := rfl
                omega
              have hEa : (E.all fun q => s3 (brX s m L E T B (.ro 2 R.length (.lst (tmC R)))) q.2) = true := brX_sO hT hlt
              repeat' (first | omega | ((first | refine awC_sound _ _ _ _ ?_ | (refine DrawA.intro (id := 35) [[109,110,111,112,113,114],[108,110,111,112,113],[108,109,111,112],[108,109,110],[108,109,110],[108,109],[108],[],[]] [[],[0],[0,1],[0,1,2],[0,1,2],[0,1],[0],[],[]] (by decide +kernel) mixed ?_) | skip); simp only [go_sem, sevalprocAttr, ↓reduceIte, reduceCtorEq, hB, q1, q2, q3, eB, n0, n1, n2, m1, m2, m3, m4, m5, hd0, hd1, hGa, tmC_s3, hgG, i0, i1, i2, i3, i4, hr]) | (refine gspDI ?_ ?_ <;> (intro _hh; (try simp only [_hh]); revert _hh)) | refine gspLI ?_ ?_ | refine condLI ?_ ?_ | refine gspI ?_ ?_ | refine And.intro ?_ ?_ | with_reducible intro _hh | trivial | (simp only [cl1, cl2, cl3, List.length_cons, List.length_nil, List.length_append]; omega))
              all_goals (try exact hEa)
              refine ⟨CallA.fn rfl hTm ?_⟩
              simp only [go_sem, sevalprocAttr, ↓reduceIte, reduceCtorEq, hB, q1, q2, q3, eB, n0, n1, n2, m1, m2, m3, m4, m5, hd0, hd1, hGa, tmC_s3]
              try refine ⟨hEa, ?_⟩
              refine ⟨CallA.fn rfl hA ?_⟩
              simp only [go_sem, sevalprocAttr, ↓reduceIte, reduceCtorEq, hB, q1, q2, q3, eB, n0, n1, n2, m1, m2, m3, m4, m5, hd0, hd1, hGa, tmC_s3]
              try refine ⟨hEa, ?_⟩
              repeat' (first | omega | ((first | refine awC_sound _ _ _ _ ?_ | skip); simp only [go_sem, sevalprocAttr, ↓reduceIte, reduceCtorEq, hB, q1, q2, q3, eB, n0, n1, n2, m1, m2, m3, m4, m5, hd0, hd1, hGa, tmC_s3]) | (refine gspDI ?_ ?_ <;> (intro _hh; (try simp only [_hh]); revert _hh)) | refine gspLI ?_ ?_ | refine condLI ?_ ?_ | refine gspI ?_ ?_ | refine And.intro ?_ ?_ | with_reducible intro _hh | trivial | (simp only [cl1, cl2, cl3, List.length_cons, List.length_nil, List.length_append]; omega))
              all_goals (try exact hEa)
              refine ⟨_, _, _, ?_, ?_, ⟨x + 1, R', by omega, rfl, hR2, rfl, rfl⟩⟩
              · omega
              · refine Wk.sub ?_ (brX_self hT hB3 hlt (fun _ => rfl))
                simp only [go_sem, sevalprocAttr, ↓reduceIte, reduceCtorEq, eB, n0, n1, n2, hgG, i0, i1, i2, i3, i4]
            · obtain rfl : x = s.length + 1 := by omega
              have hQ' : PolyB R (brT m s.length L (J - 1 + 1)) := hR.congr fun e => by
                rw [show J - 1 + 1 = J by omega, hstep, rowT_all hf]
              repeat' (first | omega | ((first | refine awC_sound _ _ _ _ ?_ | skip); simp only [go_sem, sevalprocAttr, ↓reduceIte, reduceCtorEq, eB, n0, n1, n2, m1]) | (refine gspDI ?_ ?_ <;> (intro _hh; (try simp only [_hh]); revert _hh)) | refine gspLI ?_ ?_ | refine condLI ?_ ?_ | refine gspI ?_ ?_ | refine And.intro ?_ ?_ | with_reducible intro _hh | trivial | (simp only [cl1, cl2, cl3, List.length_cons, List.length_nil, List.length_append]; omega))
              refine ⟨_, _, _, ?_, ?_, ⟨J - 1, R, _, by omega, rfl, hQ', .inr rfl, rfl, rfl⟩⟩
              · omega
              · refine Wk.sub ?_ (brX_self hT hB3 hlt (fun _ => rfl))
                simp only [go_sem, sevalprocAttr, ↓reduceIte, reduceCtorEq, eB, n0, n1, n2, hJc]
      · obtain rfl : J = 0 := by omega
        have hPe : P = brP m s.length L := hP.eq fun e he => brT_sup hp hs hL (by omega) he
        rcases hx with ⟨rfl, hP0⟩ | rfl
        all_goals
          repeat' (first | omega | ((first | refine awC_sound _ _ _ _ ?_ | skip); simp only [go_sem, sevalprocAttr, ↓reduceIte, reduceCtorEq, eB, n0, n1, n2, m1, tmC_snapP]) | (refine gspDI ?_ ?_ <;> (intro _hh; (try simp only [_hh]); revert _hh)) | refine gspLI ?_ ?_ | refine condLI ?_ ?_ | refine gspI ?_ ?_ | refine And.intro ?_ ?_ | with_reducible intro _hh | trivial | (simp only [cl1, cl2, cl3, List.length_cons, List.length_nil, List.length_append]; omega))
        · rw [← hPe, hP0]
          exact LeA.tupL (.cons le_zeroP' (.cons (LeA.refl _) .nil))
        · rw [← hPe]
          exact LeA.refl _
end Go.Proofs.YtalmkaiiffodnaaGreatDoor
