/- Rows of one's own whose number is not known. -/
import Derived.Test.YtalmkaiiffodnaaGreatDoorGd
set_option linter.unusedSimpArgs false
set_option linter.unusedVariables false
namespace Go.Proofs.YtalmkaiiffodnaaGreatDoor
open Go Go.RowKit
set_option maxRecDepth 100000
def rowsH (T : List (Nat × List Int)) : Hp := T.map fun q => (q.1, AObj.cells 3 (.ints q.2))
theorem rowsH_cons (i : Nat) (r : List Int) (T : List (Nat × List Int)) : rowsH ((i, r) :: T) = (i, AObj.cells 3 (.ints r)) :: rowsH T := rfl
def tset : List (Nat × List Int) → Nat → List Int → List (Nat × List Int)
  | [], _, _ => []
  | (i, r) :: T, j, r' => if i = j then (i, r') :: T else (i, r) :: tset T j r'
theorem tset_get (T : List (Nat × List Int)) (j : Nat) (r : List Int) (o : AObj) (h : hget (rowsH T) j = some o) (i : Nat) : hget (rowsH (tset T j r)) i = if i = j then some (.cells 3 (.ints r)) else hget (rowsH T) i := by
  induction T with
  | nil => cases h
  | cons q T ih =>
    obtain ⟨k, x⟩ := q
    rw [rowsH_cons] at h ⊢
    simp only [hget, tset] at h ⊢
    by_cases e : k = j
    · subst e
      rw [if_pos rfl, rowsH_cons]
      simp only [hget]
      by_cases e2 : k = i
      · subst e2; simp
      · rw [if_neg e2, if_neg e2, if_neg (fun h => e2 h.symm)]
    · rw [if_neg e] at h ⊢
      rw [rowsH_cons]
      simp only [hget]
      by_cases e2 : k = i
      · subst e2; rw [if_pos rfl, if_pos rfl, if_neg e]
      · rw [if_neg e2, if_neg e2]; exact ih h
def TOk (T : List (Nat × List Int)) : Prop := ∀ q ∈ T, hget (rowsH T) q.1 = some (.cells 3 (.ints q.2))
theorem lfind_put_same {v : AV} : ∀ (E : List (Int × AV)) (n : Int), lfind (lput E n v) n = some v
  | [], n => by simp [lfind, lput]
  | q :: E, n => by
    unfold lput
    split
    · simp [lfind]
    · rename_i h
      have := lfind_put_same (v := v) E n
      unfold lfind at this ⊢
      have e : (q.1 == n) = false := by simpa using h
      simp only [List.find?_cons, e]; exact this
theorem lfind_put_ne {v : AV} {n c : Int} (hc : c ≠ n) : ∀ (E : List (Int × AV)), lfind (lput E n v) c = lfind E c
  | [] => by
    have e : (n == c) = false := by simpa using fun h => hc h.symm
    simp [lfind, lput, e]
  | q :: E => by
    unfold lput
    split
    · rename_i h
      have e : (n == c) = false := by simpa using fun h => hc h.symm
      have e2 : (q.1 == c) = false := by rw [h]; exact e
      simp [lfind, List.find?_cons, e, e2]
    · have := lfind_put_ne (v := v) hc E
      unfold lfind at this ⊢
      simp only [List.find?_cons]
      cases q.1 == c
      · exact this
      · rfl
structure Tab (n : Nat) (E : List (Int × AV)) (T : List (Nat × List Int)) (f : Int → Option (List Int)) : Prop where
  no : ∀ c, f c = none → lfind E c = none
  yes : ∀ c r, f c = some r → ∃ id, lfind E c = some (.sl 1 id 0 (n + 1)) ∧ hget (rowsH T) id = some (.cells 3 (.ints r)) ∧ r.length = n + 1
  inj : ∀ c c' id, lfind E c = some (.sl 1 id 0 (n + 1)) → lfind E c' = some (.sl 1 id 0 (n + 1)) → c = c'
  nd : (T.map (·.1)).Nodup
  low : ∀ q ∈ T, 4 ≤ q.1
  mem : ∀ q ∈ E, ∃ id, q.2 = .sl 1 id 0 (n + 1) ∧ (hget (rowsH T) id).isSome = true
theorem rows_mem {T : List (Nat × List Int)} {i : Nat} {o : AObj} (h : hget (rowsH T) i = some o) : ∃ r, (i, r) ∈ T ∧ o = .cells 3 (.ints r) := by
  induction T with
  | nil => cases h
  | cons q T ih =>
    obtain ⟨k, x⟩ := q
    rw [rowsH_cons] at h
    simp only [hget] at h
    split at h
    · rename_i e; subst e; cases h; exact ⟨x, List.mem_cons_self .., rfl⟩
    · obtain ⟨r, h1, h2⟩ := ih h; exact ⟨r, List.mem_cons_of_mem _ h1, h2⟩
theorem Tab.new {n : Nat} {E : List (Int × AV)} {T : List (Nat × List Int)} {f : Int → Option (List Int)} (h : Tab n E T f) {c : Int} (hf : f c = none) {id : Nat} (hid : ∀ q ∈ T, q.1 < id) (h3 : 4 ≤ id) {r : List Int} (hr : r.length = n + 1) :
    Tab n (lput E c (.sl 1 id 0 (n + 1))) ((id, r) :: T) (fun x => if x = c then some r else f x) := by
  have old : ∀ i o, hget (rowsH T) i = some o → hget (rowsH ((id, r) :: T)) i = some o := fun i o hi => by
    obtain ⟨x, hx, _⟩ := rows_mem hi
    have := hid _ hx
    rw [rowsH_cons]; simp only [hget]; rw [if_neg (by omega)]; exact hi
  have mid : ∀ c' i, lfind E c' = some (.sl 1 i 0 (n + 1)) → i ≠ id := fun c' i hi e => by
    subst e
    unfold lfind at hi
    obtain ⟨q, hq, hq2⟩ := Option.map_eq_some_iff.1 hi
    obtain ⟨j, e1, e2⟩ := h.mem q (List.mem_of_find?_eq_some hq)
    rw [hq2] at e1; cases e1
    obtain ⟨o, ho⟩ := Option.isSome_iff_exists.1 e2
    obtain ⟨x, hx, _⟩ := rows_mem ho
    have := hid _ hx
    omega
  refine ⟨fun c' hc' => ?_, fun c' r' hc' => ?_, fun c1 c2 i h1 h2 => ?_, ?_, fun q hq => ?_, fun q hq => ?_⟩
  · by_cases e : c' = c
    · subst e; simp at hc'
    · rw [lfind_put_ne e]; simp only [if_neg e] at hc'; exact h.no c' hc'
  · by_cases e : c' = c
    · subst e
      simp only [if_true, Option.some.injEq] at hc'
      subst hc'
      exact ⟨id, lfind_put_same _ _, by rw [rowsH_cons]; simp [hget], hr⟩
    · simp only [if_neg e] at hc'
      obtain ⟨i, a1, a2, a3⟩ := h.yes c' r' hc'
      exact ⟨i, by rw [lfind_put_ne e]; exact a1, old i _ a2, a3⟩
  · by_cases e1 : c1 = c
    · by_cases e2 : c2 = c
      · rw [e1, e2]
      · rw [e1, lfind_put_same] at h1
        rw [lfind_put_ne e2] at h2
        cases h1
        exact absurd rfl (mid c2 _ h2)
    · by_cases e2 : c2 = c
      · rw [e2, lfind_put_same] at h2
        rw [lfind_put_ne e1] at h1
        cases h2
        exact absurd rfl (mid c1 _ h1)
      · rw [lfind_put_ne e1] at h1
        rw [lfind_put_ne e2] at h2
        exact h.inj c1 c2 i h1 h2
  · rw [List.map_cons, List.nodup_cons]
    refine ⟨fun hm => ?_, h.nd⟩
    obtain ⟨q, hq, e⟩ := List.mem_map.1 hm
    have := hid q hq
    simp only at e
    omega
  · rcases List.mem_cons.1 hq with rfl | hq
    · exact h3
    · exact h.low q hq
  · obtain ⟨k, x⟩ := q
    rcases lput_mem hq with hq | hq
    · obtain ⟨i, a1, a2⟩ := h.mem _ hq
      obtain ⟨o, ho⟩ := Option.isSome_iff_exists.1 a2
      exact ⟨i, a1, by rw [old i o ho]; rfl⟩
    · cases hq
      exact ⟨id, rfl, by rw [rowsH_cons]; simp [hget]⟩
theorem tset_mem {T : List (Nat × List Int)} {j : Nat} {r : List Int} {q : Nat × List Int} (h : q ∈ tset T j r) : ∃ r', (q.1, r') ∈ T := by
  induction T with
  | nil => cases h
  | cons p T ih =>
    obtain ⟨i, x⟩ := p
    unfold tset at h
    split at h
    · rcases List.mem_cons.1 h with rfl | h
      · exact ⟨x, List.mem_cons_self ..⟩
      · exact ⟨q.2, List.mem_cons_of_mem _ h⟩
    · rcases List.mem_cons.1 h with rfl | h
      · exact ⟨x, List.mem_cons_self ..⟩
      · obtain ⟨r', hr⟩ := ih h; exact ⟨r', List.mem_cons_of_mem _ hr⟩
theorem nodup_ok : ∀ {T : List (Nat × List Int)}, (T.map (·.1)).Nodup → TOk T
  | [], _, q, hq => by cases hq
  | (i, r) :: T, h, q, hq => by
    rw [List.map_cons, List.nodup_cons] at h
    rw [rowsH_cons]
    simp only [hget]
    rcases List.mem_cons.1 hq with rfl | hq
    · simp
    · have : i ≠ q.1 := fun e => h.1 (e ▸ List.mem_map.2 ⟨q, hq, rfl⟩)
      rw [if_neg this]; exact nodup_ok h.2 q hq
theorem tset_fst (T : List (Nat × List Int)) (j : Nat) (r : List Int) : (tset T j r).map (·.1) = T.map (·.1) := by
  induction T with
  | nil => rfl
  | cons p T ih =>
    obtain ⟨i, x⟩ := p
    unfold tset
    split
    · rfl
    · rw [List.map_cons, List.map_cons, ih]
theorem Tab.upd {n : Nat} {E : List (Int × AV)} {T : List (Nat × List Int)} {f : Int → Option (List Int)} (h : Tab n E T f) {c : Int} {id : Nat} {r r' : List Int} (hf : f c = some r) (hl : lfind E c = some (.sl 1 id 0 (n + 1))) (hg : hget (rowsH T) id = some (.cells 3 (.ints r))) (hr : r'.length = n + 1) :
    Tab n E (tset T id r') (fun x => if x = c then some r' else f x) := by
  refine ⟨fun c' hc' => ?_, fun c' x hc' => ?_, h.inj, by rw [tset_fst]; exact h.nd, fun q hq => ?_, fun q hq => ?_⟩
  · by_cases e : c' = c
    · subst e; simp at hc'
    · simp only [if_neg e] at hc'; exact h.no c' hc'
  · by_cases e : c' = c
    · subst e
      simp only [if_true, Option.some.injEq] at hc'
      subst hc'
      exact ⟨id, hl, by rw [tset_get T id r' _ hg, if_pos rfl], hr⟩
    · simp only [if_neg e] at hc'
      obtain ⟨i, a1, a2, a3⟩ := h.yes c' x hc'
      have : i ≠ id := fun e2 => by subst e2; exact e (h.inj c' c i a1 hl)
      exact ⟨i, a1, by rw [tset_get T id r' _ hg, if_neg this]; exact a2, a3⟩
  · obtain ⟨x, hx⟩ := tset_mem hq
    exact h.low (q.1, x) hx
  · obtain ⟨i, a1, a2⟩ := h.mem q hq
    refine ⟨i, a1, ?_⟩
    rw [tset_get T id r' _ hg]
    split
    · rfl
    · exact a2
theorem hget_appG (H : Hp) (i j : Nat) : hget (H ++ [(i, .gone)]) j = match hget H j with | some o => some o | none => if i = j then some .gone else none := by
  induction H with
  | nil => simp [hget]
  | cons p H ih =>
    obtain ⟨k, o⟩ := p
    rw [List.cons_append]
    simp only [hget]
    by_cases e : k = j
    · rw [if_pos e, if_pos e]
    · rw [if_neg e, if_neg e]; exact ih
theorem Wk.gone {fr : Fr} {H : Hp} (i : Nat) (h : hget H i = none) : Wk fr H fr (H ++ [(i, .gone)]) := by
  intro B w0 Mx N w ρ a hs
  have up : ∀ j o, hget H j = some o → hget (H ++ [(i, .gone)]) j = some o := fun j o hj => by rw [hget_appG, hj]
  have dn : ∀ j o, hget (H ++ [(i, .gone)]) j = some o → o = .gone ∨ hget H j = some o := fun j o hj => by
    rw [hget_appG] at hj
    cases hq : hget H j with
    | some o' => rw [hq] at hj; exact .inr hj
    | none =>
      rw [hq] at hj
      simp only at hj
      split at hj
      · cases hj; exact .inl rfl
      · cases hj
  have dl : ∀ j o, hget (H ++ [(i, .gone)]) j = some o → o.live = true → hget H j = some o := fun j o hj hl => by
    rcases dn j o hj with rfl | h2
    · cases hl
    · exact h2
  have hM : ∀ b, ¬ MM Mx H ρ b → ¬ MM Mx (H ++ [(i, .gone)]) ρ b := fun b hn hm => hn (by
    rcases hm with h1 | ⟨id, o, h1, h2, h3⟩
    · exact .inl h1
    · exact .inr ⟨id, o, dl id o h1 h2, h2, h3⟩)
  have hc : ∀ {v : Value} {x : AV}, VR w (MM Mx H ρ) ρ (DD H) v x → VR w (MM Mx (H ++ [(i, .gone)]) ρ) ρ (DD (H ++ [(i, .gone)])) v x := fun hv =>
    hv.carry (Nat.le_refl _) (fun b _ hm => ⟨rfl, hM b hm⟩) (fun id hd => ⟨let ⟨o, ho⟩ := hd; ⟨o, up id o ho⟩, rfl, fun arr t ha => ⟨arr, ha, rfl⟩⟩)
  refine ⟨ρ, hs.below, hs.hB, hs.mx, fun id o h1 h2 => hs.own id o (dl id o h1 h2) h2, fun id o h1 => ?_, fun id o id' o' h1 h2 h3 h4 h5 => hs.inj id o id' o' (dl _ _ h1 h2) h2 (dl _ _ h3 h4) h4 h5, fun t => hc (hs.frv t), hs.defers, hs.size⟩
  rcases dn id o h1 with rfl | h2
  · trivial
  have hr := hs.objs id o h2
  cases o with
  | gone => trivial
  | cells t c =>
    obtain ⟨g1, arr, g2, g3, g4⟩ := hr
    exact ⟨g1, arr, g2, g3, fun j hj => let ⟨u, hu, hv⟩ := g4 j hj; ⟨u, hu, hc hv⟩⟩
  | imap t l =>
    obtain ⟨g0, es, ck, g1, g2, g3⟩ := hr
    exact ⟨g0, es, ck, g1, g2, fun j e' k x he hl => let ⟨k1, k2, k3⟩ := g3 j e' k x he hl; ⟨k1, hc k2, k3⟩⟩
  | fmap t c => exact hr
def rowsG (T : List (Nat × List Int)) : Hp := rowsH T ++ [(3, .gone)]
theorem rowsG_nil : rowsG [] = [(3, .gone)] := rfl
theorem rowsG_cons (i : Nat) (r : List Int) (T : List (Nat × List Int)) : rowsG ((i, r) :: T) = (i, AObj.cells 3 (.ints r)) :: rowsG T := rfl
theorem rowsG_get (T : List (Nat × List Int)) {i : Nat} (h : i ≠ 3) : hget (rowsG T) i = hget (rowsH T) i := by
  unfold rowsG
  rw [hget_appG]
  cases hget (rowsH T) i with
  | some o => rfl
  | none => simp [show ¬ (3 = i) by omega]
theorem rowsG_hset (T : List (Nat × List Int)) (j : Nat) (r : List Int) (hj : j ≠ 3) : hset (rowsG T) j (.cells 3 (.ints r)) = rowsG (tset T j r) := by
  induction T with
  | nil => simp [rowsG, rowsH, hset, tset, show ¬ (3 = j) by omega]
  | cons q T ih =>
    obtain ⟨i, x⟩ := q
    rw [rowsG_cons]
    simp only [hset, tset]
    split
    · rfl
    · rw [ih, rowsG_cons]
theorem rowsG_new (T : List (Nat × List Int)) : 4 ≤ hnew (rowsG T) := by
  induction T with
  | nil => simp [rowsG, rowsH, hnew]
  | cons q T ih => obtain ⟨i, x⟩ := q; rw [rowsG_cons]; simp only [hnew]; omega
theorem rowsG_lt (T : List (Nat × List Int)) (i : Nat) (o : AObj) (h : hget (rowsG T) i = some o) : i < hnew (rowsG T) := by
  rcases Nat.lt_or_ge i (hnew (rowsG T)) with g | g
  · exact g
  · rw [hget_new g] at h; cases h
theorem rowsG_frzPH (HF : Hp) (T : List (Nat × List Int)) : frzPH HF (rowsG T) = True := by
  induction T with
  | nil => simp [rowsG, rowsH, frzPH, frzPO]
  | cons q T ih => obtain ⟨i, r⟩ := q; rw [rowsG_cons]; simp only [frzPH, frzPO, ih, and_self]
theorem rowsG_frzH (HF : Hp) (h3 : hget HF 3 = none) : ∀ (T : List (Nat × List Int)), (∀ q ∈ T, hget HF q.1 = none) → frzH HF (rowsG T) = rowsG T
  | [], _ => by simp [rowsG, rowsH, frzH, h3, frzO]
  | (i, r) :: T, h => by
    rw [rowsG_cons]
    simp only [frzH, h (i, r) (List.mem_cons_self ..), frzO]
    rw [rowsG_frzH HF h3 T fun q hq => h q (List.mem_cons_of_mem _ hq)]
theorem rowsG_subH {H H' : Hp} (h3 : hget H 3 = some .gone) : ∀ (T : List (Nat × List Int)), (∀ q ∈ T, hget H q.1 = some (.cells 3 (.ints q.2))) → subH H H' (rowsG T)
  | [], _ => ⟨h3, rfl, trivial⟩
  | (i, r) :: T, h => ⟨h (i, r) (List.mem_cons_self ..), rfl, rowsG_subH h3 T fun q hq => h q (List.mem_cons_of_mem _ hq)⟩
theorem rowsG_3 {T : List (Nat × List Int)} (h : ∀ q ∈ T, 4 ≤ q.1) : hget (rowsG T) 3 = some .gone := by
  induction T with
  | nil => rfl
  | cons q T ih =>
    obtain ⟨i, r⟩ := q
    have := h (i, r) (List.mem_cons_self ..)
    rw [rowsG_cons]
    simp only [hget]
    rw [if_neg (by omega), ih fun q hq => h q (List.mem_cons_of_mem _ hq)]
theorem Tab.nil (n : Nat) : Tab n [] [] (fun _ => none) :=
  ⟨fun _ _ => rfl, (fun _ _ h => by cases h), (fun _ _ _ h => by simp [lfind] at h), by simp, (fun _ h => by cases h), (fun _ h => by cases h)⟩
theorem rowsG_all (T : List (Nat × List Int)) {f : (Nat × AObj) → Bool} (h1 : ∀ i r, f (i, .cells 3 (.ints r)) = true) (h2 : f (3, .gone) = true) : (rowsG T).all f = true := by
  induction T with
  | nil => simp [rowsG, rowsH, h2]
  | cons q T ih => obtain ⟨i, r⟩ := q; rw [rowsG_cons, List.all_cons, h1, ih]; rfl
theorem rowsG_drop {dl : List Nat} (T : List (Nat × List Int)) (h : ∀ i ∈ dl, i ≠ 3 ∧ ∀ q ∈ T, q.1 ≠ i) : hdrop dl (rowsG T) = rowsG T := by
  have nc : ∀ i, i ∉ dl → dl.contains i = false := fun i hi => by simpa using hi
  induction T with
  | nil =>
    have : dl.contains 3 = false := nc 3 fun h3 => (h 3 h3).1 rfl
    simp only [rowsG_nil, hdrop, this, Bool.false_eq_true, if_false]
  | cons q T ih =>
    obtain ⟨i, r⟩ := q
    have : dl.contains i = false := nc i fun hi => (h i hi).2 (i, r) (List.mem_cons_self ..) rfl
    rw [rowsG_cons]
    simp only [hdrop, this, Bool.false_eq_true, if_false]
    rw [ih fun j hj => ⟨(h j hj).1, fun q hq => (h j hj).2 q (List.mem_cons_of_mem _ hq)⟩]
end Go.Proofs.YtalmkaiiffodnaaGreatDoor
