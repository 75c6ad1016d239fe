/- Loops that are unrolled; calls that turn several tracked blocks; rows of fours. -/
import Derived.Test.YtmjgfoeonnbkpaaDxS
set_option linter.unusedSimpArgs false
set_option linter.unusedVariables false
namespace Go.Dx
open Go.RowKit

section
variable {P : Program} {E : Env}

/-! ### A loop, round by round -/

/-- A loop's rounds, at most m of them. -/
def unr (P : Program) (E : Env) (N : Nat) (c : Code) (k : List Fr) : Nat → St → Prop
  | 0, _ => False
  | m + 1, S => ex P E N (.C c (.l (unr P E N c k m) :: k) S)

@[go_sem] theorem unr_succ (N : Nat) (c : Code) (k : List Fr) (m : Nat) (S : St) : unr P E N c k (m + 1) S = ex P E N (.C c (.l (unr P E N c k m) :: k) S) := rfl

theorem CodeC.unroll {c : Code} {k : List Fr} {S : St} (m N : Nat) (h : unr P E N c k m S) : CodeC P E (.loop c) k S := by
  intro a w hok
  refine wpIn_loop_g (fun m a w => ∃ S, Ok E S a w ∧ unr P E N c k m S) id m ⟨S, hok, h⟩ ?_
  rintro g a w ⟨S, hok, h⟩
  cases g with
  | zero => exact h.elim
  | succ g =>
    refine wpIn_mono (ex_sem N _ h a w hok) ?_
    intro e a' w' hq
    cases e with
    | normal => exact ⟨g, hq, Nat.lt_succ_self g⟩
    | _ => exact hq

theorem SubH.refl : ∀ l : List Ent, SubH l l
  | [] => trivial
  | e :: l => by
    unfold SubH
    have hb : Nat.beq e.t e.t = true := by simp
    rw [hb]
    exact ⟨rfl, SubH.refl l⟩

/-! ### Several blocks at once -/

/-- Of what is tracked a part, as a call's own start. -/
theorem Mem.here {W0 : World} {mods ms : List Nat} {l0 l r : List Ent} {w : World} (h : Mem W0 mods (l0 ++ (l ++ r)) w) (hms : ∀ e ∈ l, e.w = true → e.b ∈ ms) : Mem w ms l w := by
  have hs : l.Sublist (l0 ++ (l ++ r)) := (List.sublist_append_left l r).trans (List.sublist_append_right l0 _)
  exact Mem.refl w ms l (fun e he => h.get e (hs.subset he)) (fun e he hw => Or.inr (hms e he hw)) (h.sep.sublist hs)

def key (e : Ent) : Nat × Bool := (e.b, e.w)

theorem keys_mem {l l' : List Ent} (hk : l'.map key = l.map key) {e : Ent} (he : e ∈ l') : ∃ x ∈ l, x.b = e.b ∧ x.w = e.w := by
  have : key e ∈ l.map key := by rw [← hk]; exact List.mem_map.2 ⟨e, he, rfl⟩
  obtain ⟨x, hx, hxe⟩ := List.mem_map.1 this
  simp only [key, Prod.mk.injEq] at hxe
  exact ⟨x, hx, hxe⟩

theorem pairwise_key {l l' : List Ent} (hk : l'.map key = l.map key) (h : l.Pairwise fun x y => x.w = true ∨ y.w = true → x.b ≠ y.b) : l'.Pairwise fun x y => x.w = true ∨ y.w = true → x.b ≠ y.b := by
  have h1 : (l.map key).Pairwise fun x y => x.2 = true ∨ y.2 = true → x.1 ≠ y.1 := List.pairwise_map.2 h
  rw [← hk] at h1
  exact List.pairwise_map.1 h1

/-- A call has turned a part of what is tracked. -/
theorem Mem.updS {W0 : World} {mods ms : List Nat} {l0 l l' r : List Ent} {w w' : World} (h : Mem W0 mods (l0 ++ (l ++ r)) w) (hc : Mem w ms l' w') (hk : l'.map key = l.map key) (hms : ∀ b ∈ ms, ∃ e ∈ l, e.w = true ∧ e.b = b) :
    Mem W0 mods (l0 ++ (l' ++ r)) w' := by
  have hsep := h.sep
  have hkk : (l0 ++ (l' ++ r)).map key = (l0 ++ (l ++ r)).map key := by simp [hk]
  have hfr : ∀ e ∈ l0 ++ r, e.b ∉ ms := by
    intro e he hm
    obtain ⟨x, hx, hxw, hxb⟩ := hms _ hm
    rw [List.pairwise_append] at hsep
    obtain ⟨s1, s2, s3⟩ := hsep
    rw [List.pairwise_append] at s2
    rcases List.mem_append.1 he with he | he
    · exact s3 e he x (List.mem_append_left _ hx) (Or.inr hxw) hxb.symm
    · exact s2.2.2 x hx e he (Or.inl hxw) hxb
  refine ⟨hc.os.trans h.os, hc.tape.trans h.tape, hc.output.trans h.output, Nat.le_trans h.size hc.size, ?_, ?_, ?_, pairwise_key hkk hsep⟩
  · intro b hb hm
    have hbm : b ∉ ms := by
      intro hbm
      obtain ⟨x, hx, hxw, rfl⟩ := hms _ hbm
      rcases h.wr x (List.mem_append_right _ (List.mem_append_left _ hx)) hxw with h' | h'
      · omega
      · exact hm h'
    rw [hc.frame b (Nat.lt_of_lt_of_le hb h.size) hbm]
    exact h.frame b hb hm
  · intro e he
    have old : e ∈ l0 ++ r → e ∈ l0 ++ (l ++ r) → w'.heap[e.b]? = some (denO e.o) := fun h1 h2 => by
      rw [hc.frame e.b (h.lt h2) (hfr e h1)]
      exact h.get e h2
    rcases List.mem_append.1 he with he | he
    · exact old (List.mem_append_left _ he) (List.mem_append_left _ he)
    · rcases List.mem_append.1 he with he | he
      · exact hc.get e he
      · exact old (List.mem_append_right _ he) (List.mem_append_right _ (List.mem_append_right _ he))
  · intro e he hw
    obtain ⟨x, hx, hxb, hxw⟩ := keys_mem hkk he
    rw [← hxb]
    exact h.wr x hx (hxw.trans hw)

/-- A block that is only read gives way to another one, or stays. -/
theorem Mem.swap {W0 : World} {mods : List Nat} {l r : List Ent} {t b : Nat} {o : HObj} {w w' : World} (h : Mem W0 mods (l ++ ⟨t, b, false, o⟩ :: r) w) (hb : Bel w.heap.size w w') {b' : Nat} {o' : HObj}
    (h1 : b' = b ∨ w.heap.size ≤ b') (h2 : w'.heap[b']? = some (denO o')) : Mem W0 mods (l ++ ⟨t, b', false, o'⟩ :: r) w' := by
  rcases h1 with rfl | h1
  · have h' := h.call hb
    refine ⟨h'.os, h'.tape, h'.output, h'.size, h'.frame, ?_, ?_, pairwise_key (l := l ++ ⟨t, b', false, o⟩ :: r) (by simp [key]) h'.sep⟩
    · intro e he
      rcases List.mem_append.1 he with he | he
      · exact h'.get e (List.mem_append_left _ he)
      · rcases List.mem_cons.1 he with rfl | he
        · exact h2
        · exact h'.get e (List.mem_append_right _ (List.mem_cons_of_mem _ he))
    · intro e he hw
      rcases List.mem_append.1 he with he | he
      · exact h'.wr e (List.mem_append_left _ he) hw
      · rcases List.mem_cons.1 he with rfl | he
        · cases hw
        · exact h'.wr e (List.mem_append_right _ (List.mem_cons_of_mem _ he)) hw
  · exact h.fresh_ro hb rfl t h1 h2

/-- What is tracked under other names. -/
theorem Mem.tags {W0 : World} {mods : List Nat} {hp hp' : List Ent} {w : World} (h : Mem W0 mods hp w) (hk : hp'.map (fun e => (e.b, e.w, denO e.o)) = hp.map (fun e => (e.b, e.w, denO e.o))) : Mem W0 mods hp' w := by
  have mem : ∀ e ∈ hp', ∃ x ∈ hp, x.b = e.b ∧ x.w = e.w ∧ denO x.o = denO e.o := fun e he => by
    have : (e.b, e.w, denO e.o) ∈ hp.map (fun e => (e.b, e.w, denO e.o)) := by rw [← hk]; exact List.mem_map.2 ⟨e, he, rfl⟩
    obtain ⟨x, hx, hxe⟩ := List.mem_map.1 this
    simp only [Prod.mk.injEq] at hxe
    exact ⟨x, hx, hxe⟩
  refine ⟨h.os, h.tape, h.output, h.size, h.frame, ?_, ?_, ?_⟩
  · intro e he
    obtain ⟨x, hx, h1, h2, h3⟩ := mem e he
    rw [← h1, ← h3]
    exact h.get x hx
  · intro e he hw
    obtain ⟨x, hx, h1, h2, h3⟩ := mem e he
    rw [← h1]
    exact h.wr x hx (h2.trans hw)
  · refine pairwise_key ?_ h.sep
    have := congrArg (List.map fun (q : Nat × Bool × Obj) => (q.1, q.2.1)) hk
    rw [List.map_map, List.map_map] at this
    exact this

end

/-! ### Rows of fours -/

def sl4 (l : List Int) (o : Nat) : List Int := [l.getD o 0, l.getD (o + 1) 0, l.getD (o + 2) 0, l.getD (o + 3) 0]
def put4 (l : List Int) (o : Nat) (a b c d : Int) : List Int := (((l.set o a).set (o + 1) b).set (o + 2) c).set (o + 3) d

@[simp] theorem put4_length (l : List Int) (o : Nat) (a b c d : Int) : (put4 l o a b c d).length = l.length := by simp [put4]

theorem nums_get (k : IntKind) (l : List Int) (i : Nat) (hi : i < l.length) : (nums k l)[i]? = some (.v (.int k (l.getD i 0))) := by
  simp [nums, hi]

theorem own_get (k : IntKind) (l : List Int) (r : List SV) (i : Nat) (hi : i < l.length) : (nums k l ++ r)[i]? = some (.v (.int k (l.getD i 0))) := by
  rw [List.getElem?_append_left (by simpa using hi), nums_get k l i hi]

theorem hdN_own (k : IntKind) (l : List Int) (r : List SV) (n : Nat) (h : n ≤ l.length) : hdN (nums k l ++ r) n = nums k (l.take n) := by
  rw [hdN_eq, List.take_append_of_le_length (by simpa using h)]
  simp [nums, List.map_take]

theorem ldN_own (k : IntKind) (l : List Int) (r : List SV) (o n : Nat) (h : o + n ≤ l.length) : ldN (nums k l ++ r) o n = nums k ((l.drop o).take n) := by
  rw [ldN_eq, List.drop_append_of_le_length (by simp; omega), List.take_append_of_le_length (by simp; omega)]
  simp [nums, List.map_take, List.map_drop]

theorem ldN4 (k : IntKind) (l : List Int) (r : List SV) (o : Nat) (h : o + 4 ≤ l.length) :
    ldN (nums k l ++ r) o 4 = [.v (.int k (l.getD o 0)), .v (.int k (l.getD (o + 1) 0)), .v (.int k (l.getD (o + 2) 0)), .v (.int k (l.getD (o + 3) 0))] := by
  rw [ldN_eq]
  apply List.ext_getElem?
  intro t
  by_cases ht : t < 4
  · rw [List.getElem?_take_of_lt ht, List.getElem?_drop]
    rcases t with _ | _ | _ | _ | t
    · rw [own_get k l r _ (by omega)]; rfl
    · rw [own_get k l r _ (by omega)]; rfl
    · rw [own_get k l r _ (by omega)]; rfl
    · rw [own_get k l r _ (by omega)]; rfl
    · omega
  · rw [List.getElem?_eq_none (by simp; omega), List.getElem?_eq_none (by simp; omega)]

theorem stN_cons2 (l : List SV) (o : Nat) (x : SV) (ys : List SV) (h : o + (ys.length + 1) ≤ l.length) : stN l o (x :: ys) = stN (stN l o [x]) (o + 1) ys := by
  rw [stN_eq l o (x :: ys) (by simpa using h), stN_eq l o [x] (by simp; omega), stN_eq _ _ _ (by simp; omega)]
  apply List.ext_getElem?
  intro t
  simp only [List.length_cons, List.length_nil, List.append_assoc]
  have e1 : (List.take o l).length = o := by simp; omega
  have e2 : (List.take (o + 1) (List.take o l ++ ([x] ++ List.drop (o + (0 + 1)) l))) = List.take o l ++ [x] := by
    rw [List.take_append, e1]
    simp
    rw [List.take_of_length_le (by simp; omega)]
  have e3 : List.drop (o + 1 + ys.length) (List.take o l ++ ([x] ++ List.drop (o + (0 + 1)) l)) = List.drop (o + (ys.length + 1)) l := by
    rw [List.drop_append, e1]
    rw [List.drop_of_length_le (by simp; omega)]
    simp only [List.nil_append]
    rw [show o + 1 + ys.length - o = ys.length + 1 by omega]
    simp
    congr 1
    omega
  rw [e2, e3]
  simp

theorem stN4 (k : IntKind) (l : List Int) (r : List SV) (o : Nat) (a b c d : Int) (h : o + 4 ≤ l.length) :
    stN (nums k l ++ r) o [.v (.int k a), .v (.int k b), .v (.int k c), .v (.int k d)] = nums k (put4 l o a b c d) ++ r := by
  rw [stN_cons2 _ _ _ _ (by simp; omega), stN_nums k _ _ _ _ (by omega), stN_cons2 _ _ _ _ (by simp; omega), stN_nums k _ _ _ _ (by simp; omega),
    stN_cons2 _ _ _ _ (by simp; omega), stN_nums k _ _ _ _ (by simp; omega), stN_nums k _ _ _ _ (by simp; omega)]
  rfl

theorem ldN4' (k : IntKind) (l : List Int) (o : Nat) (h : o + 4 ≤ l.length) :
    ldN (nums k l) o 4 = [.v (.int k (l.getD o 0)), .v (.int k (l.getD (o + 1) 0)), .v (.int k (l.getD (o + 2) 0)), .v (.int k (l.getD (o + 3) 0))] := by
  have := ldN4 k l [] o h
  simpa using this

theorem stN4' (k : IntKind) (l : List Int) (o : Nat) (a b c d : Int) (h : o + 4 ≤ l.length) :
    stN (nums k l) o [.v (.int k a), .v (.int k b), .v (.int k c), .v (.int k d)] = nums k (put4 l o a b c d) := by
  have := stN4 k l [] o a b c d h
  simpa using this

theorem put4_eq (l : List Int) (o : Nat) (a b c d : Int) (h : o + 4 ≤ l.length) : put4 l o a b c d = l.take o ++ [a, b, c, d] ++ l.drop (o + 4) := by
  apply List.ext_getElem?
  intro t
  unfold put4
  have e1 : (List.take o l).length = o := by simp; omega
  by_cases h1 : t < o
  · rw [List.getElem?_set_ne (by omega), List.getElem?_set_ne (by omega), List.getElem?_set_ne (by omega), List.getElem?_set_ne (by omega), List.append_assoc, List.getElem?_append_left (by omega), List.getElem?_take_of_lt h1]
  · rw [List.append_assoc, List.getElem?_append_right (by omega), e1]
    obtain ⟨s, rfl⟩ : ∃ s, t = o + s := ⟨t - o, by omega⟩
    rw [show o + s - o = s by omega]
    rcases s with _ | _ | _ | _ | s
    · simp [show o < l.length by omega]
    · simp [show o + 1 < l.length by omega]
    · simp [show o + 2 < l.length by omega]
    · simp [show o + 3 < l.length by omega]
    · rw [List.getElem?_set_ne (by omega), List.getElem?_set_ne (by omega), List.getElem?_set_ne (by omega), List.getElem?_set_ne (by omega)]
      simp
      congr 1
      omega

theorem ld1_end (k : IntKind) (l : List Int) (y : SV) (r : List SV) (n : Nat) (h : l.length = n) : ld1 (nums k l ++ y :: r) n = y := by
  subst h
  rw [ld1_eq, List.getElem?_append_right (by simp)]
  simp

theorem stN_end (k : IntKind) (l : List Int) (y z : SV) (r : List SV) (n : Nat) (h : l.length = n) : stN (nums k l ++ y :: r) n [z] = nums k l ++ z :: r := by
  subst h
  rw [stN_eq _ _ _ (by simp)]
  rw [List.take_append, List.drop_append]
  have e1 : List.take l.length (nums k l) = nums k l := List.take_of_length_le (by simp)
  have e2 : List.drop (l.length + [z].length) (nums k l) = [] := List.drop_of_length_le (by simp)
  rw [e1, e2]
  simp

theorem ldN_add (a : SV) (l : List SV) (o n : Nat) : ldN (a :: l) (1 + o) n = ldN l o n := by rw [Nat.add_comm]; rfl
theorem ld1_5 (a b c d e : SV) (l : List SV) (o : Nat) : ld1 (a :: b :: c :: d :: e :: l) (5 + o) = ld1 l o := by rw [Nat.add_comm]; rfl
theorem ldN_5 (a b c d e : SV) (l : List SV) (o n : Nat) : ldN (a :: b :: c :: d :: e :: l) (5 + o) n = ldN l o n := by rw [Nat.add_comm]; rfl
theorem stN_5 (a b c d e : SV) (l : List SV) (o : Nat) (ys : List SV) : stN (a :: b :: c :: d :: e :: l) (5 + o) ys = a :: b :: c :: d :: e :: stN l o ys := by rw [Nat.add_comm]; rfl
theorem ld1_4 (a b c d : SV) (l : List SV) (o : Nat) : ld1 (a :: b :: c :: d :: l) (4 + o) = ld1 l o := by rw [Nat.add_comm]; rfl
theorem ldN_4 (a b c d : SV) (l : List SV) (o n : Nat) : ldN (a :: b :: c :: d :: l) (4 + o) n = ldN l o n := by rw [Nat.add_comm]; rfl
theorem stN_4 (a b c d : SV) (l : List SV) (o : Nat) (ys : List SV) : stN (a :: b :: c :: d :: l) (4 + o) ys = a :: b :: c :: d :: stN l o ys := by rw [Nat.add_comm]; rfl

theorem rpt4 (n : Nat) : rpt n [.v (.int .u32 0), .v (.int .u32 0), .v (.int .u32 0), .v (.int .u32 0)] = nums .u32 (List.replicate (n * 4) 0) := by
  induction n with
  | zero => rfl
  | succ n ih =>
    rw [rpt_succ, ih]
    rw [show (n + 1) * 4 = n * 4 + 1 + 1 + 1 + 1 by omega]
    simp only [List.replicate_succ]
    rfl

end Go.Dx
