/- The store, plainly: records, frames, the log, what is stored and bound. No program in sight. -/
import Derived.Test.YtfanhbemmjcomaaHashPlain
import Derived.Test.YtfanhbemmjcomaaWirePlain
namespace Go.Proofs.Ytfanhbemmjcomaa
set_option linter.unusedVariables false
namespace S
/-- A record of a log. -/
inductive R where
  | obj (b : List UInt8)
  | bind (n k : UInt64)
/-- The key of an object. -/
def key (b : List UInt8) : UInt64 := H.bytes [111, 98, 106, 101, 99, 116] b
/-- A sum's eight bytes. -/
def le8 (x : UInt64) : List UInt8 := (List.range 8).map fun i => UInt8.ofNat (x.toNat / 256 ^ i)
theorem le8_len (x : UInt64) : (le8 x).length = 8 := by simp [le8]
def crc (p : List UInt8) : UInt64 := H.bytes [102, 114, 97, 109, 101] p
def payload : R → List UInt8
  | .obj b => V.enc 1 ++ (V.enc (UInt64.ofNat b.length) ++ b)
  | .bind n k => V.enc 2 ++ V.enc n ++ V.enc k
def frame (p : List UInt8) : List UInt8 := V.enc (UInt64.ofNat p.length) ++ le8 (crc p) ++ p
def log (L : List R) : List UInt8 := L.flatMap fun r => frame (payload r)
theorem log_nil : log [] = [] := rfl
theorem log_snoc (L : List R) (r : R) : log (L ++ [r]) = log L ++ frame (payload r) := by simp [log]
theorem log_cons (r : R) (L : List R) : log (r :: L) = frame (payload r) ++ log L := by simp [log]
/-- The object with a key. -/
def get : List R → UInt64 → Option (List UInt8)
  | [], _ => none
  | .obj b :: L, k => if key b = k then some b else get L k
  | .bind _ _ :: L, k => get L k
/-- What a name is bound to: the last binding. -/
def look : List R → UInt64 → Option UInt64
  | [], _ => none
  | .obj _ :: L, n => look L n
  | .bind m k :: L, n => match look L n with | some j => some j | none => if m = n then some k else none
theorem get_obj_pos {c : List UInt8} {k : UInt64} (L : List R) (h : key c = k) : get (.obj c :: L) k = some c := by unfold get; exact if_pos h
theorem get_obj_neg {c : List UInt8} {k : UInt64} (L : List R) (h : key c ≠ k) : get (.obj c :: L) k = get L k := by rw [get]; exact if_neg h
theorem get_bind (m j k : UInt64) (L : List R) : get (.bind m j :: L) k = get L k := rfl
theorem get_snoc_some {b c : List UInt8} {k : UInt64} : ∀ {L : List R}, get L k = some c → get (L ++ [.obj b]) k = some c
  | [], h => by cases h
  | .obj d :: L, h => by
    rw [List.cons_append]
    by_cases e : key d = k
    · rw [get_obj_pos _ e] at h ⊢; exact h
    · rw [get_obj_neg _ e] at h ⊢; exact get_snoc_some h
  | .bind _ _ :: L, h => by
    rw [List.cons_append, get_bind]; exact get_snoc_some h
theorem get_snoc_hit {b : List UInt8} {k : UInt64} (hk : key b = k) : ∀ {L : List R}, get L k = none → get (L ++ [.obj b]) k = some b
  | [], _ => get_obj_pos [] hk
  | .obj d :: L, h => by
    rw [List.cons_append]
    by_cases e : key d = k
    · rw [get_obj_pos _ e] at h; cases h
    · rw [get_obj_neg _ e] at h ⊢; exact get_snoc_hit hk h
  | .bind _ _ :: L, h => by
    rw [List.cons_append, get_bind]; exact get_snoc_hit hk h
theorem get_snoc_miss {b : List UInt8} {k : UInt64} (hk : key b ≠ k) : ∀ L : List R, get (L ++ [.obj b]) k = get L k
  | [] => get_obj_neg [] hk
  | .obj d :: L => by
    rw [List.cons_append]
    by_cases e : key d = k
    · rw [get_obj_pos _ e, get_obj_pos _ e]
    · rw [get_obj_neg _ e, get_obj_neg _ e]; exact get_snoc_miss hk L
  | .bind _ _ :: L => by
    rw [List.cons_append, get_bind, get_bind]; exact get_snoc_miss hk L
theorem get_snoc_bind (n j k : UInt64) : ∀ L : List R, get (L ++ [.bind n j]) k = get L k
  | [] => rfl
  | .obj d :: L => by
    rw [List.cons_append]
    by_cases e : key d = k
    · rw [get_obj_pos _ e, get_obj_pos _ e]
    · rw [get_obj_neg _ e, get_obj_neg _ e]; exact get_snoc_bind n j k L
  | .bind _ _ :: L => by
    rw [List.cons_append, get_bind, get_bind]; exact get_snoc_bind n j k L
theorem look_snoc_obj (b : List UInt8) (n : UInt64) : ∀ L : List R, look (L ++ [.obj b]) n = look L n
  | [] => rfl
  | .obj c :: L => look_snoc_obj b n L
  | .bind m k :: L => by simp only [List.cons_append, look]; rw [look_snoc_obj b n L]
theorem look_snoc_bind (m k n : UInt64) : ∀ L : List R, look (L ++ [.bind m k]) n = if m = n then some k else look L n
  | [] => by simp [look]
  | .obj c :: L => look_snoc_bind m k n L
  | .bind m' k' :: L => by
    simp only [List.cons_append, look]
    rw [look_snoc_bind m k n L]
    by_cases h : m = n
    · rw [if_pos h, if_pos h]
    · rw [if_neg h, if_neg h]
theorem get_mem {k : UInt64} {b : List UInt8} : ∀ {L : List R}, get L k = some b → .obj b ∈ L ∧ key b = k
  | [], h => by cases h
  | .obj d :: L, h => by
    by_cases e : key d = k
    · rw [get_obj_pos _ e] at h
      injection h with h; subst h
      exact ⟨List.mem_cons_self .., e⟩
    · rw [get_obj_neg _ e] at h
      exact ⟨List.mem_cons_of_mem _ (get_mem h).1, (get_mem h).2⟩
  | .bind _ _ :: L, h => ⟨List.mem_cons_of_mem _ (get_mem (L := L) h).1, (get_mem (L := L) h).2⟩
/-- Put: the records, the key, the error. -/
def put (L : List R) (b : List UInt8) : List R × UInt64 × Int :=
  if 65536 < b.length then (L, 0, 2)
  else match get L (key b) with
    | some c => if c = b then (L, key b, 0) else (L, 0, 4)
    | none => (L ++ [.obj b], key b, 0)
/-- Bind: the records, the error. -/
def bind (L : List R) (n k : UInt64) : List R × Int :=
  match get L k with
  | none => (L, 3)
  | some _ => if look L n = some k then (L, 0) else (L ++ [.bind n k], 0)
/-- How long a frame is at most. -/
theorem frame_len (p : List UInt8) : (frame p).length ≤ p.length + 18 := by
  have := (V.enc_len (UInt64.ofNat p.length)).2
  simp only [frame, List.length_append, le8_len]
  omega
theorem payload_len (r : R) : (payload r).length ≤ (match r with | .obj b => b.length + 20 | .bind _ _ => 30) := by
  cases r with
  | obj b =>
    have h1 := (V.enc_len 1).2
    have h2 := (V.enc_len (UInt64.ofNat b.length)).2
    simp only [payload, List.length_append]; omega
  | bind n k =>
    have h1 := (V.enc_len 2).2
    have h2 := (V.enc_len n).2
    have h3 := (V.enc_len k).2
    simp only [payload, List.length_append]; omega
/-- The records' objects are within the limit. -/
def Small (L : List R) : Prop := ∀ b, .obj b ∈ L → b.length ≤ 65536
theorem Small.nil : Small [] := by simp [Small]
theorem log_len {L : List R} (h : Small L) : (log L).length ≤ 65600 * L.length := by
  induction L with
  | nil => simp [log]
  | cons r L ih =>
    have h1 := ih (fun b hb => h b (List.mem_cons_of_mem _ hb))
    have h2 := frame_len (payload r)
    have h3 := payload_len r
    rw [log_cons, List.length_append, List.length_cons]
    cases r with
    | obj b =>
      have := h b (List.mem_cons_self ..)
      simp only at h3
      omega
    | bind n k => simp only at h3; omega
theorem put_small {L : List R} (h : Small L) (b : List UInt8) : Small (put L b).1 := by
  unfold put
  split
  · exact h
  · split
    · split
      · exact h
      · exact h
    · rename_i h1 _ _
      intro c hc
      rcases List.mem_append.1 hc with hc | hc
      · exact h c hc
      · obtain rfl : c = b := by simpa using hc
        omega
theorem put_len (L : List R) (b : List UInt8) : (put L b).1.length ≤ L.length + 1 := by
  unfold put
  split
  · simp
  · split
    · split <;> simp
    · simp
theorem bind_small {L : List R} (h : Small L) (n k : UInt64) : Small (bind L n k).1 := by
  unfold bind
  split
  · exact h
  · split
    · exact h
    · intro c hc
      rcases List.mem_append.1 hc with hc | hc
      · exact h c hc
      · simp at hc
theorem bind_len (L : List R) (n k : UInt64) : (bind L n k).1.length ≤ L.length + 1 := by
  unfold bind
  split
  · simp
  · split <;> simp
end S
end Go.Proofs.Ytfanhbemmjcomaa
